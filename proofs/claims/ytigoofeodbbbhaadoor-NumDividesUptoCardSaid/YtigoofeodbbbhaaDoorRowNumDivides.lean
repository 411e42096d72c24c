/- Num30 Drawn LawNumDivides RowNumDivides, in one text. -/
import Derived.Test.YtigoofeodbbbhaaDoorNumT
import Derived.Deep.LoopGhost
import Derived.Test.YtigoofeodbbbhaaDoorNumK
import Derived.Test.YtigoofeodbbbhaaDoorNum10
import Derived.Test.YtigoofeodbbbhaaDoorDat2
/- num.Gcd of numbers that are held. -/
namespace Go.Proofs.YtigoofeodbbbhaaDoor
open Go.RowKit Go.Proofs.YtigoofeodbbbhaaDoorL Go.Proofs.YtigoofeodbbbhaaDoorM
set_option linter.unusedVariables false
set_option linter.unusedSimpArgs false
/-- the greatest common divisor of the first ones -/
def gcdL : List LN → Nat → Nat
  | _, 0 => 0
  | L, k + 1 => Nat.gcd (gcdL L k) (match L[k]? with | some x => valB 4294967296 x.mag | none => 0)
theorem gcdL_succ (L : List LN) (k : Nat) (h : k < L.length) : gcdL L (k + 1) = Nat.gcd (gcdL L k) (valB 4294967296 L[k].mag) := by
  rw [gcdL, List.getElem?_eq_getElem h]
theorem bitsX {l : List Nat} {A : Option Addr} {c : Nat} {w : World} {X : Nat} (h : Lim w A c l) (hX : X = bitN (valB 4294967296 l)) :
    Calls Tryd.prog 62 #[.slice A l.length c] w fun e w' => e = .returned (.int .i64 (X : Int)) ∧ w = w' := by
  subst hX
  exact bits_any l _ rfl A c w h.rd h.lt h.cap (Nat.le_trans h.max (by omega))
theorem lim_ow {base w0 : Nat} {w : World} {A : Option Addr} {c N : Nat} (h : Ow encU 1 62 base w (.slice A (digB 4294967296 N).length c) (digB 4294967296 N)) (hc : (digB 4294967296 N).length ≤ c) (hl : (digB 4294967296 N).length ≤ 274877906944) : Lim w A c (digB 4294967296 N) :=
  ⟨h.rd lenU, digB_lt _ (by omega) _, hc, h.none, hl⟩
theorem gcd_rest (N M : Nat) : Nat.gcd M (N % M) = Nat.gcd N M := by rw [Nat.gcd_comm M, ← Nat.gcd_rec, Nat.gcd_comm]
set_option maxRecDepth 8000 in
set_option maxHeartbeats 4000000 in
theorem gcdAll_any (L : List LN) (n : Nat) (hn : L.length = n) (A : Option Addr) (c : Nat) (w : World) (hr : Rd encN 2 w A L) (hc : n ≤ c) (hg : ∀ x ∈ L, LimN w x) (KK : Nat) (hK : ∀ x ∈ L, x.mag.length ≤ KK) (hKK : KK ≤ 274877906940) (hm : n < 4294967296) (G : Nat) (hG : gcdL L n = G) :
    Calls Tryd.prog 39 #[.slice A n c] w (Gives w fun v w' => Told w.heap.size w' v (G : Int)) := by
  subst hn
  have HG := As.mk hg
  have HK := As.mk hK
  have HV := As.mk hG
  clear hg hK hG
  go_enter Tryd.func39, Tryd.ntmps39
  go_wp2_with ((with_reducible refine g_dst 2 ?_); go_must (refine ev_alloc 2 rfl infoNum (cs := [.bool false, .slice none 0 0]) rfl ?_); intro g2 w2 hb2 B2 hg2)
  go_loopw [12, 3] (fun v u wr => ∃ (k : Nat) (A1 : Option Addr) (c1 : Nat) (l : List Nat), k ≤ L.length ∧ v = .int .i64 (k : Int) ∧ u = .slice A1 l.length c1 ∧ Lim wr A1 c1 l ∧ As (valB 4294967296 l = gcdL L k) ∧ l.length ≤ KK ∧ Below w.heap.size w wr ∧ Blk wr g2 [.bool false, .slice none 0 0] 26) (fun v _ _ => L.length - (intOf v).toNat)
  case atStart => exact ⟨0, none, 0, [], by omega, rfl, rfl, lim_nil _, ⟨rfl⟩, by simp, hb2, B2⟩
  case round =>
    clear B2 hb2
    obtain ⟨k, A1, c1, l, hk, rfl, rfl, hl, hv, hll, hb, B2⟩ := hrel
    obtain ⟨wo, rfl⟩ : ∃ wo : World, wo = wr := ⟨_, rfl⟩
    by_cases h : k < L.length
    · obtain ⟨b, off, rfl⟩ := hr.get (ne_nil_of_lt h)
      have hcl := Rd.n (hr.below hb) k h
      have hlx := (HG.out _ (List.getElem_mem h)).below hb
      have hxl := HK.out _ (List.getElem_mem h)
      have hsum := gcdL_succ L k h
      obtain ⟨x, hx⟩ : ∃ x, x = L[k] := ⟨_, rfl⟩
      rw [← hx] at hcl hlx hsum hxl
      obtain ⟨xn, xA, xc, xm⟩ := x
      simp only at hcl hxl hsum
      obtain ⟨cl0, cl1⟩ := hcl
      replace hlx : Lim wo xA xc xm := hlx
      rw [← hv.out] at hsum
      have Hsum := As.mk hsum
      clear hsum hx
      go_wp2_with (first
        | ((with_reducible refine g_dst 5 ?_); go_must (refine ev_alloc 5 rfl infoNum (cs := [.bool false, .slice none 0 0]) rfl ?_); intro g5 w4 hb4 B5 hg5; have hne25 : g2 ≠ g5 := Nat.ne_of_lt (Nat.lt_of_lt_of_le B2.lt hg5); replace B2 := B2.below hb4)
        | ((with_reducible refine g_store 5 ?_); go_must (refine ev_store rfl rfl B5 (news := [.bool xn, .slice xA xm.length xc]) (by rfl) infoNum (by simp) (by simp [Value.oneCell']) ?_); intro w5 ho5 B5'; simp only [List.take_zero, List.nil_append, List.length_cons, List.length_nil, List.drop_succ_cons, List.drop_zero, List.append_nil, List.cons_append] at B5'; replace B2 := B2.only ho5 hne25; have hb5 : Below wo.heap.size wo w5 := hb4.trans (ho5.below hg5); clear B5; have C5 := B5'.cells))
      have hl5 := hl.below hb5
      have hx5 := hlx.below hb5
      go_loopg [3, 6] (valB 4294967296 xm) (fun gk u v wr => ∃ (A2 A3 : Option Addr) (c2 c3 : Nat) (p q : List Nat), u = .slice A2 p.length c2 ∧ v = .slice A3 q.length c3 ∧ Lim wr A2 c2 p ∧ Lim wr A3 c3 q ∧ p.length ≤ KK ∧ q.length ≤ KK ∧ As (gk = valB 4294967296 q) ∧ As (Nat.gcd (valB 4294967296 p) (valB 4294967296 q) = Nat.gcd (valB 4294967296 l) (valB 4294967296 xm)) ∧ Below w5.heap.size w5 wr ∧ Blk wr g2 [.bool false, .slice none 0 0] 26)
      case atStart => exact ⟨A1, xA, c1, xc, l, xm, rfl, rfl, hl5, hx5, hll, hxl, ⟨rfl⟩, ⟨rfl⟩, Below.refl _ _, B2⟩
      case round =>
        clear B2 C5 B5' cl0 cl1
        obtain ⟨A2, A3, c2, c3, p, q, rfl, rfl, hp, hq, hpl, hql, hgk, hgc, hbi, B2⟩ := hrel
        obtain ⟨X, hX⟩ : ∃ X, X = bitN (valB 4294967296 q) := ⟨_, rfl⟩
        have HX := As.mk hX
        have hX0 : X = 0 ↔ valB 4294967296 q = 0 := by rw [hX]; exact bitN_eq_zero _
        clear hX
        by_cases hq0 : valB 4294967296 q = 0
        · have hN : As (valB 4294967296 p = gcdL L (k + 1)) := ⟨by rw [Hsum.out, ← hgc.out, hq0, Nat.gcd_zero_right]⟩
          obtain rfl : X = 0 := hX0.2 hq0
          clear hX0 hq0 hgk hgc
          go_wp2_with (go_at_call 62; (with_reducible refine (bitsX hq HX.out).mono ?_); rintro e w' ⟨rfl, rfl⟩)
          go_roundw
          case rel => exact ⟨k + 1, A2, c2, p, by omega, by go_num, rfl, hp, hN, hpl, bthen hb (bthen hb5 hbi), B2⟩
          case measure => simp [intOf]; omega
        · have hXp : 0 < X := by omega
          have y1 : decide ((X : Int) > 0) = true := by simp; omega
          have y2 : decide ((0 : Int) < (X : Int)) = true := by simp; omega
          have y3 : decide (0 < X) = true := by simpa using hXp
          have HD := As.mk (natDivAll_any p q A2 A3 c2 c3 wr hp hq (by omega))
          have hlt : valB 4294967296 p % valB 4294967296 q < valB 4294967296 q := Nat.mod_lt _ (by omega)
          have hLl : (digB 4294967296 (valB 4294967296 p % valB 4294967296 q)).length ≤ q.length := digB_len_lt _ (by omega) _ _ (Nat.lt_trans hlt (valB_lt _ (by omega) q hq.lt))
          have hgc2 : As (Nat.gcd (valB 4294967296 q) (valB 4294967296 p % valB 4294967296 q) = Nat.gcd (valB 4294967296 l) (valB 4294967296 xm)) := ⟨by rw [gcd_rest, hgc.out]⟩
          have hgk2 : As (gk = valB 4294967296 q) := hgk
          have HLT := As.mk hlt
          clear hX0 hq0 hXp hgk hgc hlt
          go_wp2_with (first
            | (go_at_call 62; (with_reducible refine (bitsX hq HX.out).mono ?_); rintro e w' ⟨rfl, rfl⟩)
            | (go_at_call 50; (with_reducible refine HD.out.mono ?_); rintro e w6 ⟨v6, rfl, ⟨q6, r6, rfl, oq, or6⟩, hb6⟩; obtain ⟨Ar, cr, rfl, hr1, hr2⟩ := or6.form; have hlr := lim_ow (w0 := 0) or6 hr1 (by omega)))
          go_roundg (valB 4294967296 (digB 4294967296 (valB 4294967296 p % valB 4294967296 q)))
          case measure => rw [digB_val _ (by omega), hgk2.out]; exact HLT.out
          case rel => exact ⟨A3, Ar, c3, cr, q, _, rfl, rfl, hq.below hb6, hlr, hql, by omega, ⟨rfl⟩, ⟨by rw [digB_val _ (by omega)]; exact hgc2.out⟩, bthen hbi hb6, B2.below hb6⟩
    · obtain rfl : k = L.length := by omega
      have HE : As (valB 4294967296 l = G) := ⟨by rw [hv.out, HV.out]⟩
      have HT := As.mk (told_any l false A1 c1 wo hl)
      rw [HE.out] at HT
      have l2 := B2.lt
      have hGs : As (sval false G = (G : Int)) := ⟨rfl⟩
      rw [hGs.out] at HT
      clear hv
      go_wp2_with (first
        | (go_at_call 48; (with_reducible refine HT.out.mono ?_); rintro e w4 ⟨v4, rfl, ht4, hb4⟩; obtain ⟨m, rfl, ho4, h14⟩ := told_one ht4; have B24 := B2.below hb4)
        | ((with_reducible refine g_store 2 ?_); go_must (refine ev_store rfl rfl B24 (news := [.bool (decide ((G : Int) < 0)), m]) (by rfl) infoNum (by simp) h14 ?_); intro w5 ho5 B5; simp only [List.take_zero, List.nil_append, List.length_cons, List.length_nil, List.drop_succ_cons, List.drop_zero, List.append_nil, List.cons_append] at B5))
      refine bodyPost_ret (results_cell_row rfl _ _ g2 26 #[.bool (decide ((G : Int) < 0)), m] (0, 0) _ rfl B5.h Tryd.underlying26 rfl (by kernel_rfl)) rfl ?_
      exact ⟨_, rfl, ⟨m, rfl, ow_only ho4 ho5 l2 hb.size⟩, (bthen hb hb4).trans (ho5.below hg2)⟩
theorem gcdF {w : World} {L : List NR} {g : Nat} {b b2 : Bool} {A A2 : Option Addr} {n c n2 c2 : Nat} {z z2 : Int} {K K2 : Nat} {can can2 : Bool} {t : TypeId} (F : Fs w L) (B : Blk w g [.bool b, .slice A n c, .bool b2, .slice A2 n2 c2] t) (h : (⟨b, A, n, c, z, K, can⟩ : NR) ∈ L) (h' : (⟨b2, A2, n2, c2, z2, K2, can2⟩ : NR) ∈ L) (hK : K + K2 ≤ 274877906940) (d : Nat) (hd : Nat.gcd z.natAbs z2.natAbs = d) :
    Calls Tryd.prog 39 #[.slice (some ⟨g, 0, none⟩) 2 2] w (Gives w (NumRes w (d : Int) (K + K2) true)) := by
  have ho := F.out _ h
  have hs := ho.sm
  obtain ⟨⟨l, h1, h2, h3, h4⟩, h5⟩ := ho
  have ho2 := F.out _ h'
  have hs2 := ho2.sm
  obtain ⟨⟨m, k1, k2, k3, k4⟩, k5⟩ := ho2
  simp only at h1 h2 h3 h4 h5 hs k1 k2 k3 k4 k5 hs2
  subst h1 k1
  have e : valB 4294967296 l = z.natAbs := by rw [← h3, sval_abs]
  have e2 : valB 4294967296 m = z2.natAbs := by rw [← k3, sval_abs]
  have := gcdAll_any [⟨b, A, c, l⟩, ⟨b2, A2, c2, m⟩] 2 rfl (some ⟨g, 0, none⟩) 2 w (B.rd (l := [⟨b, A, c, l⟩, ⟨b2, A2, c2, m⟩]) lenN rfl) (Nat.le_refl _) (two_limN' h2 k2) (K + K2) (fun x hx => by
    simp only [List.mem_cons, List.not_mem_nil, or_false] at hx
    rcases hx with rfl | rfl
    · exact Nat.le_trans h5 (by omega)
    · exact Nat.le_trans k5 (by omega)) (by omega) (by omega) d (by
      show Nat.gcd (Nat.gcd 0 (valB 4294967296 l)) (valB 4294967296 m) = d
      rw [Nat.gcd_zero_left, e, e2, hd])
  refine this.mono ?_
  rintro e' w' ⟨v, rfl, ht, hb⟩
  refine ⟨_, rfl, NumRes.of ht ?_ (by omega), hb⟩
  show ((d : Nat) : Int).natAbs < 4294967296 ^ (K + K2)
  rw [Int.natAbs_natCast]
  have hz1 : z.natAbs < 4294967296 ^ K := hs
  have hz2 : z2.natAbs < 4294967296 ^ K2 := hs2
  have p1 : 4294967296 ^ K ≤ 4294967296 ^ (K + K2) := Nat.pow_le_pow_right (by omega) (by omega)
  have p2 : 4294967296 ^ K2 ≤ 4294967296 ^ (K + K2) := Nat.pow_le_pow_right (by omega) (by omega)
  rcases Nat.eq_zero_or_pos z.natAbs with hz | hz
  · rw [hz, Nat.gcd_zero_left] at hd
    omega
  · have := Nat.gcd_le_left z2.natAbs hz
    omega
end Go.Proofs.YtigoofeodbbbhaaDoor
/- Short names for the walk of a region that draws its order. -/
namespace Go.Proofs.YtigoofeodbbbhaaDoor
open Go.RowKit Go.Proofs.YtigoofeodbbbhaaDoorL Go.Proofs.YtigoofeodbbbhaaDoorM
set_option linter.unusedVariables false
set_option linter.unusedSimpArgs false
theorem pA {α : Type} (l : List α) (i : Nat) (a : α) : l.toArray.setIfInBounds i a = (l.set i a).toArray := List.setIfInBounds_toArray ..
theorem pB {α : Type} (x a : α) (xs : List α) : (x :: xs).set 0 a = a :: xs := List.set_cons_zero
theorem pC {α : Type} (x a : α) (xs : List α) (i : Nat) : (x :: xs).set (i + 1) a = x :: xs.set i a := List.set_cons_succ
theorem pD {α : Type} (l : List α) (i : Nat) (h : i < l.toArray.size) : l.toArray[i] = l[i]'(by simpa using h) := List.getElem_toArray ..
theorem pE {α : Type} (x : α) (xs : List α) (h : 0 < (x :: xs).length) : (x :: xs)[0] = x := List.getElem_cons_zero ..
theorem pF {α : Type} (x : α) (xs : List α) (i : Nat) (h : i + 1 < (x :: xs).length) : (x :: xs)[i + 1] = xs[i]'(by simpa using h) := List.getElem_cons_succ ..
theorem gI {P : Program} {ops : Array Oper} {K : Act → World → Prop} {Q : Exit → Act → World → Prop} {E : Prop} {a : Act} {w : World} {o : Oper} (h : if Region.wanted o (yielded ops a.tmps) = true then Oper.wp P o a w K Q else E) : if Region.wanted o (yielded ops a.tmps) = true then Oper.wp P o a w K Q else E := h
theorem gA {P : Program} {md : Region.Mode} {ops : Array Oper} {Q : Exit → Act → World → Prop} {S : World → Prop} {fuel : Nat} {listed : Array Bool} {a : Act} {w : World} {rs : List Nat} (h : AllReadyH P md ops Q S fuel listed a w rs) : AllReadyH P md ops Q S fuel listed a w rs := h
theorem gW {P : Program} {md : Region.Mode} {ops : Array Oper} {Q : Exit → Act → World → Prop} {S : World → Prop} {fuel : Nat} {listed : Array Bool} {a : Act} {w : World} (h : wpAnyH P md ops Q S fuel listed a w) : wpAnyH P md ops Q S fuel listed a w := h
theorem m0 {α : Type} {a : α} {l : List α} : a ∈ a :: l := List.mem_cons_self ..
theorem m1 {α : Type} {a b : α} {l : List α} (h : a ∈ l) : a ∈ b :: l := List.mem_cons_of_mem _ h
theorem tk {P : Program} {ops : Array Oper} {Q : Exit → Act → World → Prop} {md : Region.Mode} {S : World → Prop} {i : Nat} {oi : Oper} {v : Value} {fuel : Nat} {listed : Array Bool} {a : Act} {w : World} (hi : ops[i]? = some oi)
    (h3 : (Region.noSelect ops && (Region.free md ops listed i && (Region.ready md ops listed).contains i)) = true) (hw : Region.wanted oi (yielded ops a.tmps) = true) (hy : ∀ w, S w → (execOp a.eval oi).run P w = .ok (.value v) w) (hS : S w)
    (h : wpAnyH P md ops (NoPanic Q) S fuel (listed.setIfInBounds i true) (a.put oi.dst v) w) : wpAnyH P md ops (NoPanic Q) S (fuel + 1) listed a w := by
  simp only [Bool.and_eq_true] at h3
  exact wpAnyH_take hi h3.1 h3.2.1 h3.2.2 (fun _ _ _ h => h) (.inl ⟨hw, hy⟩) hS h
theorem tn {P : Program} {ops : Array Oper} {Q : Exit → Act → World → Prop} {md : Region.Mode} {S : World → Prop} {i : Nat} {oi : Oper} {fuel : Nat} {listed : Array Bool} {a : Act} {w : World} (hi : ops[i]? = some oi)
    (h3 : (Region.noSelect ops && (Region.free md ops listed i && (Region.ready md ops listed).contains i)) = true) (hw : Region.wanted oi (yielded ops a.tmps) = false) (hS : S w)
    (h : wpAnyH P md ops (NoPanic Q) S fuel (listed.setIfInBounds i true) (a.put oi.dst undef) w) : wpAnyH P md ops (NoPanic Q) S (fuel + 1) listed a w := by
  simp only [Bool.and_eq_true] at h3
  exact wpAnyH_take hi h3.1 h3.2.1 h3.2.2 (fun _ _ _ h => h) (.inr ⟨hw, rfl⟩) hS h
theorem ner {w w' : World} {A : Option Addr} {g : Nat} {cs : List Value} {t : TypeId} (hf : ∀ k ∈ addrBlock A, w.heap.size ≤ k ∧ k < w'.heap.size) (B : Blk w g cs t) : ∀ k ∈ addrBlock A, k ≠ g := fun k hk e => by
  have h1 := (hf k hk).1
  have h2 := B.lt
  omega
theorem nal {w : World} {A : Option Addr} {g : Nat} (hf : ∀ k ∈ addrBlock A, k < w.heap.size) (hg : w.heap.size ≤ g) : ∀ k ∈ addrBlock A, k ≠ g := fun k hk e => by
  have h1 := hf k hk
  omega
theorem nbx {w : World} {g k : Nat} {cs : List Value} {t : TypeId} (B : Blk w k cs t) (hg : w.heap.size ≤ g) : g ≠ k := fun e => by
  have h1 := B.lt
  omega
theorem ltf {w w' : World} {A : Option Addr} (hf : ∀ k ∈ addrBlock A, w.heap.size ≤ k ∧ k < w'.heap.size) : ∀ k ∈ addrBlock A, k < w'.heap.size := fun k hk => (hf k hk).2
theorem lte {w w1 : World} {A : Option Addr} (hf : ∀ k ∈ addrBlock A, k < w.heap.size) (hb : Below w.heap.size w w1) : ∀ k ∈ addrBlock A, k < w1.heap.size := fun k hk => Nat.lt_of_lt_of_le (hf k hk) hb.size
theorem lto {w w1 : World} {A : Option Addr} {g : Nat} (hf : ∀ k ∈ addrBlock A, k < w.heap.size) (ho : Only g w w1) : ∀ k ∈ addrBlock A, k < w1.heap.size := fun k hk => Nat.lt_of_lt_of_eq (hf k hk) ho.size.symm
theorem st2 {w : World} {g : Nat} {a b c d : Value} {t : TypeId} (B : Blk w g ([a, b].take 0 ++ [c, d] ++ [a, b].drop (0 + [c, d].length)) t) : Blk w g [c, d] t := B
end Go.Proofs.YtigoofeodbbbhaaDoor
/- NumDivides. -/
namespace Go.Proofs.YtigoofeodbbbhaaDoor
open Go.RowKit Go.Proofs.YtigoofeodbbbhaaDoorL Go.Proofs.YtigoofeodbbbhaaDoorM
set_option linter.unusedVariables false
set_option linter.unusedSimpArgs false
theorem divides_facts (a b g : Int) (d : Nat) (hd : Nat.gcd (a * g).natAbs (b * g).natAbs = d) :
    (d = 0 → a * g = 0 ∧ b * g = 0) ∧ (d ≠ 0 → (a * g).tmod (d : Int) = 0 ∧ (b * g).tmod (d : Int) = 0 ∧ (d : Int).tmod g = 0) := by
  constructor
  · intro h0
    rw [h0] at hd
    have := Nat.gcd_eq_zero_iff.1 hd
    omega
  · intro h0
    have h1 : (d : Int) ∣ a * g := Int.natAbs_dvd_natAbs.1 (by rw [Int.natAbs_natCast]; exact hd ▸ Nat.gcd_dvd_left _ _)
    have h2 : (d : Int) ∣ b * g := Int.natAbs_dvd_natAbs.1 (by rw [Int.natAbs_natCast]; exact hd ▸ Nat.gcd_dvd_right _ _)
    have h3 : g ∣ (d : Int) := by
      rw [← Int.natAbs_dvd_natAbs, Int.natAbs_natCast, ← hd]
      refine Nat.dvd_gcd ?_ ?_
      · rw [Int.natAbs_mul]; exact Nat.dvd_mul_left _ _
      · rw [Int.natAbs_mul]; exact Nat.dvd_mul_left _ _
    exact ⟨Int.tmod_eq_zero_of_dvd h1, Int.tmod_eq_zero_of_dvd h2, Int.tmod_eq_zero_of_dvd h3⟩
set_option maxRecDepth 16000 in
set_option maxHeartbeats 16000000 in
theorem numDivides_any (x y u : LN) (w : World) (htab : Tab w) (hx : LimN w x) (hy : LimN w y) (hu : LimN w u) (hxy : x.mag.length + y.mag.length + u.mag.length ≤ 1048576) :
    Calls Tryd.prog 11 #[.agg (encN x).toArray, .agg (encN y).toArray, .agg (encN u).toArray] w (Gives w fun r _ => r = .bool true) := by
  obtain ⟨n1, A1, c1, l1⟩ := x
  obtain ⟨n2, A2, c2, l2⟩ := y
  obtain ⟨n3, A3, c3, l3⟩ := u
  simp only [encN]
  replace hxy : l1.length + l2.length + l3.length ≤ 1048576 := hxy
  obtain ⟨k1, z1, e1, o1⟩ := open_num hx
  obtain ⟨k2, z2, e2, o2⟩ := open_num hy
  obtain ⟨k3, z3, e3, o3⟩ := open_num hu
  have F0 := (((Fs.nil w).cons o1).cons o2).cons o3
  rw [e1, e2, e3] at hxy ⊢
  have HT := As.mk htab
  clear htab hx hy hu e1 o1 e2 o2 e3 o3
  obtain ⟨d, hd⟩ : ∃ d, Nat.gcd (z1 * z3).natAbs (z2 * z3).natAbs = d := ⟨_, rfl⟩
  obtain ⟨f1, f2⟩ := divides_facts z1 z2 z3 d hd
  have HD := As.mk hd
  have H1 := As.mk f1
  have H2 := As.mk f2
  clear hd f1 f2
  go_enter Tryd.func11, Tryd.ntmps11
  go_wp2_with (first
    | ((with_reducible refine g_dst 3 ?_); go_must (refine ev_box 3 rfl (cs := [.bool n1, .slice A1 k1 c1]) (by rfl) ?_); intro g3 wb hb3 B3 hg3; have hbt := hb3)
    | ((with_reducible refine g_dst 4 ?_); go_must (refine ev_box 4 rfl (cs := [.bool n2, .slice A2 k2 c2]) (by rfl) ?_); intro g4 wb hb4 B4 hg4; replace B3 := B3.below hb4; replace hbt := bthen hbt hb4)
    | ((with_reducible refine g_dst 5 ?_); go_must (refine ev_box 5 rfl (cs := [.bool n3, .slice A3 k3 c3]) (by rfl) ?_); intro g5 wb hb5 B5 hg5; replace B3 := B3.below hb5; replace B4 := B4.below hb5; replace hbt := bthen hbt hb5))
  replace F0 := F0.below hbt
  clear hg3 hb3 hg4 hb4 hg5 hb5
  go_cut [7] (fun s7 wx => ∃ (g7 : Nat) (b7 : Bool) (A7 : Option Addr) (n7 c7 : Nat), s7 = .pointer (some ⟨g7, 0, none⟩) ∧ Below wb.heap.size wb wx ∧ Blk wx g7 [.bool b7, .slice A7 n7 c7] 26 ∧ Fs wx [⟨b7, A7, n7, c7, z1 * z3, k1 + k3, true⟩])
  case first =>
    as_aux_lemma =>
      have hcur := (Below.refl wb.heap.size wb).drew
      have F := F0.below hcur
      refine wp_gen2 (fun Q7 hQ7 => ?_)
      refine wp_region_held_drew (S := fun W => Below wb.heap.size wb W) (by kernel_rfl) hcur (fun hHeld => ?_)
      clear hHeld
      refine tk (i := 0) (v := .agg #[.bool n1, .slice A1 k1 c1]) rfl (by kernel_rfl) (by kernel_rfl) (fun W hSw => by have Cb := (B3.below hSw).cells; (go_simp; (try (with_reducible rfl)))) hcur ?_
      (try simp only [Act.put, pA, pB, pC, pD, pE, pF])
      refine tk (i := 2) (v := .agg #[.bool n3, .slice A3 k3 c3]) rfl (by kernel_rfl) (by kernel_rfl) (fun W hSw => by have Cb := (B5.below hSw).cells; (go_simp; (try (with_reducible rfl)))) hcur ?_
      (try simp only [Act.put, pA, pB, pC, pD, pE, pF])
      refine wpAnyH_ready (rs := [1, 6]) (by kernel_rfl) (by simp) ?_
      refine AllReadyH.cons (o := _) rfl (fun K hK => ?_) ?_
      · go_simp; (with_reducible refine (cF F (by repeat (first | exact m0 | apply m1))).mono ?_); rintro e wn ⟨vn, rfl, ⟨b21, A21, n21, c21, rfl, o, hf⟩, hb⟩; replace F := (F.below hb).cons o; have hfr21 := ltf hf; clear hf; replace hcur := bthen hcur hb; go_wp2_with fail
        refine hK.out _ _ hcur (fun hHeld => ?_)
        clear hK K hHeld
        (try simp only [Act.put, pA, pB, pC, pD, pE, pF])
        refine wpAnyH_ready (rs := [3, 6]) (by kernel_rfl) (by simp) ?_
        refine AllReadyH.cons (o := _) rfl (fun K hK => ?_) ?_
        · go_simp; (with_reducible refine (cF F (by repeat (first | exact m0 | apply m1))).mono ?_); rintro e wn ⟨vn, rfl, ⟨b23, A23, n23, c23, rfl, o, hf⟩, hb⟩; replace F := (F.below hb).cons o; have hfr23 := ltf hf; clear hf; replace hfr21 := lte hfr21 hb; replace hcur := bthen hcur hb; go_wp2_with fail
          refine hK.out _ _ hcur (fun hHeld => ?_)
          clear hK K hHeld
          (try simp only [Act.put, pA, pB, pC, pD, pE, pF])
          refine wpAnyH_ready (rs := [4, 6]) (by kernel_rfl) (by simp) ?_
          refine AllReadyH.cons (o := _) rfl (fun K hK => ?_) ?_
          · refine st_lit (v := fun g => .slice (some ⟨g, 0, none⟩) 2 2) 24 rfl (cs := [.bool b21, .slice A21 n21 c21, .bool b23, .slice A23 n23 c23]) (t := 26) (by go_simp; try rfl) ?_; intro g24 wn hb Bl24 hg24; replace F := F.below hb; replace hfr21 := lte hfr21 hb; replace hfr23 := lte hfr23 hb; replace hcur := bthen hcur hb
            refine hK.out _ _ hcur (fun hHeld => ?_)
            clear hK K hHeld
            (try simp only [Act.put, pA, pB, pC, pD, pE, pF])
            refine wpAnyH_ready (rs := [5, 6]) (by kernel_rfl) (by simp) ?_
            refine AllReadyH.cons (o := _) rfl (fun K hK => ?_) ?_
            · go_simp; (with_reducible refine (mulF F Bl24 (by repeat (first | exact m0 | apply m1)) (by repeat (first | exact m0 | apply m1)) (by omega)).mono ?_); rintro e wn ⟨vn, rfl, ⟨b25, A25, n25, c25, rfl, o, hf⟩, hb⟩; replace F := (F.below hb).cons o; have hfr25 := ltf hf; clear hf; replace Bl24 := Bl24.below hb; replace hfr21 := lte hfr21 hb; replace hfr23 := lte hfr23 hb; replace hcur := bthen hcur hb; go_wp2_with fail
              refine hK.out _ _ hcur (fun hHeld => ?_)
              clear hK K hHeld
              (try simp only [Act.put, pA, pB, pC, pD, pE, pF])
              refine wpAnyH_ready (rs := [6]) (by kernel_rfl) (by simp) ?_
              refine AllReadyH.cons (o := _) rfl (fun K hK => ?_) AllReadyH.nil
              refine st_alloc 7 rfl infoNum (cs := [.bool false, .slice none 0 0]) rfl ?_; intro g7 wn hb B7 hgn; have hne21_7 := nal hfr21 hgn; have hne23_7 := nal hfr23 hgn; have hne25_7 := nal hfr25 hgn; have hg7 := Nat.le_trans hcur.size hgn; replace F := F.below hb; replace hfr21 := lte hfr21 hb; replace hfr23 := lte hfr23 hb; replace hfr25 := lte hfr25 hb; replace hcur := bthen hcur hb
              refine hK.out _ _ hcur (fun hHeld => ?_)
              clear hK K hHeld
              (try simp only [Act.put, pA, pB, pC, pD, pE, pF])
              refine wpAnyH_ready (rs := [7]) (by kernel_rfl) (by simp) ?_
              refine AllReadyH.cons (o := _) rfl (fun K hK => ?_) AllReadyH.nil
              refine st_store rfl rfl B7 (news := [.bool b25, .slice A25 n25 c25]) (by rfl) infoNum (by simp) (by simp [Value.oneCell']) ?_; intro wn hon Bx; replace B7 := st2 Bx; clear Bx; have oo7 : NR.Ok _ _ := (F.out _ (show (⟨b25, A25, n25, c25, _, _, _⟩ : NR) ∈ _ from (by repeat (first | exact m0 | apply m1)))).only hon hne25_7; have F1 := F; clear F; have F := F0.below (hcur.trans (hon.below hg7)); clear F1; replace hcur := hcur.trans (hon.below hg7); clear hon
              refine hK.out _ _ hcur (fun hHeld => ?_)
              clear hK K hHeld
              (try simp only [Act.put, pA, pB, pC, pD, pE, pF])
              refine wpAnyH_done (by kernel_rfl) ?_ _
              refine NoPanic.normal ?_
              obtain ⟨rfl⟩ := hQ7
              (go_wp2_with fail)
              go_meet
              exact ⟨g7, _, _, _, _, rfl, hcur, B7, (Fs.nil _).cons oo7⟩
            refine AllReadyH.cons (o := _) rfl (fun K hK => ?_) ?_
            · refine st_alloc 7 rfl infoNum (cs := [.bool false, .slice none 0 0]) rfl ?_; intro g7 wn hb B7 hgn; have hne21_7 := nal hfr21 hgn; have hne23_7 := nal hfr23 hgn; have hg7 := Nat.le_trans hcur.size hgn; replace F := F.below hb; replace Bl24 := Bl24.below hb; replace hfr21 := lte hfr21 hb; replace hfr23 := lte hfr23 hb; replace hcur := bthen hcur hb
              refine hK.out _ _ hcur (fun hHeld => ?_)
              clear hK K hHeld
              (try simp only [Act.put, pA, pB, pC, pD, pE, pF])
              refine wpAnyH_ready (rs := [5]) (by kernel_rfl) (by simp) ?_
              refine AllReadyH.cons (o := _) rfl (fun K hK => ?_) AllReadyH.nil
              go_simp; (with_reducible refine (mulF F Bl24 (by repeat (first | exact m0 | apply m1)) (by repeat (first | exact m0 | apply m1)) (by omega)).mono ?_); rintro e wn ⟨vn, rfl, ⟨b25, A25, n25, c25, rfl, o, hf⟩, hb⟩; replace F := (F.below hb).cons o; have hne25_7 := ner hf B7; have hfr25 := ltf hf; clear hf; replace B7 := B7.below hb; replace Bl24 := Bl24.below hb; replace hfr21 := lte hfr21 hb; replace hfr23 := lte hfr23 hb; replace hcur := bthen hcur hb; go_wp2_with fail
              refine hK.out _ _ hcur (fun hHeld => ?_)
              clear hK K hHeld
              (try simp only [Act.put, pA, pB, pC, pD, pE, pF])
              refine wpAnyH_ready (rs := [7]) (by kernel_rfl) (by simp) ?_
              refine AllReadyH.cons (o := _) rfl (fun K hK => ?_) AllReadyH.nil
              refine st_store rfl rfl B7 (news := [.bool b25, .slice A25 n25 c25]) (by rfl) infoNum (by simp) (by simp [Value.oneCell']) ?_; intro wn hon Bx; replace B7 := st2 Bx; clear Bx; have oo7 : NR.Ok _ _ := (F.out _ (show (⟨b25, A25, n25, c25, _, _, _⟩ : NR) ∈ _ from (by repeat (first | exact m0 | apply m1)))).only hon hne25_7; have F1 := F; clear F; have F := F0.below (hcur.trans (hon.below hg7)); clear F1; replace hcur := hcur.trans (hon.below hg7); clear hon
              refine hK.out _ _ hcur (fun hHeld => ?_)
              clear hK K hHeld
              (try simp only [Act.put, pA, pB, pC, pD, pE, pF])
              refine wpAnyH_done (by kernel_rfl) ?_ _
              refine NoPanic.normal ?_
              obtain ⟨rfl⟩ := hQ7
              (go_wp2_with fail)
              go_meet
              exact ⟨g7, _, _, _, _, rfl, hcur, B7, (Fs.nil _).cons oo7⟩
            exact AllReadyH.nil
          refine AllReadyH.cons (o := _) rfl (fun K hK => ?_) ?_
          · refine st_alloc 7 rfl infoNum (cs := [.bool false, .slice none 0 0]) rfl ?_; intro g7 wn hb B7 hgn; have hne21_7 := nal hfr21 hgn; have hne23_7 := nal hfr23 hgn; have hg7 := Nat.le_trans hcur.size hgn; replace F := F.below hb; replace hfr21 := lte hfr21 hb; replace hfr23 := lte hfr23 hb; replace hcur := bthen hcur hb
            refine hK.out _ _ hcur (fun hHeld => ?_)
            clear hK K hHeld
            (try simp only [Act.put, pA, pB, pC, pD, pE, pF])
            refine wpAnyH_ready (rs := [4]) (by kernel_rfl) (by simp) ?_
            refine AllReadyH.cons (o := _) rfl (fun K hK => ?_) AllReadyH.nil
            refine st_lit (v := fun g => .slice (some ⟨g, 0, none⟩) 2 2) 24 rfl (cs := [.bool b21, .slice A21 n21 c21, .bool b23, .slice A23 n23 c23]) (t := 26) (by go_simp; try rfl) ?_; intro g24 wn hb Bl24 hg24; replace F := F.below hb; replace B7 := B7.below hb; replace hfr21 := lte hfr21 hb; replace hfr23 := lte hfr23 hb; replace hcur := bthen hcur hb
            refine hK.out _ _ hcur (fun hHeld => ?_)
            clear hK K hHeld
            (try simp only [Act.put, pA, pB, pC, pD, pE, pF])
            refine wpAnyH_ready (rs := [5]) (by kernel_rfl) (by simp) ?_
            refine AllReadyH.cons (o := _) rfl (fun K hK => ?_) AllReadyH.nil
            go_simp; (with_reducible refine (mulF F Bl24 (by repeat (first | exact m0 | apply m1)) (by repeat (first | exact m0 | apply m1)) (by omega)).mono ?_); rintro e wn ⟨vn, rfl, ⟨b25, A25, n25, c25, rfl, o, hf⟩, hb⟩; replace F := (F.below hb).cons o; have hne25_7 := ner hf B7; have hfr25 := ltf hf; clear hf; replace B7 := B7.below hb; replace Bl24 := Bl24.below hb; replace hfr21 := lte hfr21 hb; replace hfr23 := lte hfr23 hb; replace hcur := bthen hcur hb; go_wp2_with fail
            refine hK.out _ _ hcur (fun hHeld => ?_)
            clear hK K hHeld
            (try simp only [Act.put, pA, pB, pC, pD, pE, pF])
            refine wpAnyH_ready (rs := [7]) (by kernel_rfl) (by simp) ?_
            refine AllReadyH.cons (o := _) rfl (fun K hK => ?_) AllReadyH.nil
            refine st_store rfl rfl B7 (news := [.bool b25, .slice A25 n25 c25]) (by rfl) infoNum (by simp) (by simp [Value.oneCell']) ?_; intro wn hon Bx; replace B7 := st2 Bx; clear Bx; have oo7 : NR.Ok _ _ := (F.out _ (show (⟨b25, A25, n25, c25, _, _, _⟩ : NR) ∈ _ from (by repeat (first | exact m0 | apply m1)))).only hon hne25_7; have F1 := F; clear F; have F := F0.below (hcur.trans (hon.below hg7)); clear F1; replace hcur := hcur.trans (hon.below hg7); clear hon
            refine hK.out _ _ hcur (fun hHeld => ?_)
            clear hK K hHeld
            (try simp only [Act.put, pA, pB, pC, pD, pE, pF])
            refine wpAnyH_done (by kernel_rfl) ?_ _
            refine NoPanic.normal ?_
            obtain ⟨rfl⟩ := hQ7
            (go_wp2_with fail)
            go_meet
            exact ⟨g7, _, _, _, _, rfl, hcur, B7, (Fs.nil _).cons oo7⟩
          exact AllReadyH.nil
        refine AllReadyH.cons (o := _) rfl (fun K hK => ?_) ?_
        · refine st_alloc 7 rfl infoNum (cs := [.bool false, .slice none 0 0]) rfl ?_; intro g7 wn hb B7 hgn; have hne21_7 := nal hfr21 hgn; have hg7 := Nat.le_trans hcur.size hgn; replace F := F.below hb; replace hfr21 := lte hfr21 hb; replace hcur := bthen hcur hb
          refine hK.out _ _ hcur (fun hHeld => ?_)
          clear hK K hHeld
          (try simp only [Act.put, pA, pB, pC, pD, pE, pF])
          refine wpAnyH_ready (rs := [3]) (by kernel_rfl) (by simp) ?_
          refine AllReadyH.cons (o := _) rfl (fun K hK => ?_) AllReadyH.nil
          go_simp; (with_reducible refine (cF F (by repeat (first | exact m0 | apply m1))).mono ?_); rintro e wn ⟨vn, rfl, ⟨b23, A23, n23, c23, rfl, o, hf⟩, hb⟩; replace F := (F.below hb).cons o; have hne23_7 := ner hf B7; have hfr23 := ltf hf; clear hf; replace B7 := B7.below hb; replace hfr21 := lte hfr21 hb; replace hcur := bthen hcur hb; go_wp2_with fail
          refine hK.out _ _ hcur (fun hHeld => ?_)
          clear hK K hHeld
          (try simp only [Act.put, pA, pB, pC, pD, pE, pF])
          refine wpAnyH_ready (rs := [4]) (by kernel_rfl) (by simp) ?_
          refine AllReadyH.cons (o := _) rfl (fun K hK => ?_) AllReadyH.nil
          refine st_lit (v := fun g => .slice (some ⟨g, 0, none⟩) 2 2) 24 rfl (cs := [.bool b21, .slice A21 n21 c21, .bool b23, .slice A23 n23 c23]) (t := 26) (by go_simp; try rfl) ?_; intro g24 wn hb Bl24 hg24; replace F := F.below hb; replace B7 := B7.below hb; replace hfr21 := lte hfr21 hb; replace hfr23 := lte hfr23 hb; replace hcur := bthen hcur hb
          refine hK.out _ _ hcur (fun hHeld => ?_)
          clear hK K hHeld
          (try simp only [Act.put, pA, pB, pC, pD, pE, pF])
          refine wpAnyH_ready (rs := [5]) (by kernel_rfl) (by simp) ?_
          refine AllReadyH.cons (o := _) rfl (fun K hK => ?_) AllReadyH.nil
          go_simp; (with_reducible refine (mulF F Bl24 (by repeat (first | exact m0 | apply m1)) (by repeat (first | exact m0 | apply m1)) (by omega)).mono ?_); rintro e wn ⟨vn, rfl, ⟨b25, A25, n25, c25, rfl, o, hf⟩, hb⟩; replace F := (F.below hb).cons o; have hne25_7 := ner hf B7; have hfr25 := ltf hf; clear hf; replace B7 := B7.below hb; replace Bl24 := Bl24.below hb; replace hfr21 := lte hfr21 hb; replace hfr23 := lte hfr23 hb; replace hcur := bthen hcur hb; go_wp2_with fail
          refine hK.out _ _ hcur (fun hHeld => ?_)
          clear hK K hHeld
          (try simp only [Act.put, pA, pB, pC, pD, pE, pF])
          refine wpAnyH_ready (rs := [7]) (by kernel_rfl) (by simp) ?_
          refine AllReadyH.cons (o := _) rfl (fun K hK => ?_) AllReadyH.nil
          refine st_store rfl rfl B7 (news := [.bool b25, .slice A25 n25 c25]) (by rfl) infoNum (by simp) (by simp [Value.oneCell']) ?_; intro wn hon Bx; replace B7 := st2 Bx; clear Bx; have oo7 : NR.Ok _ _ := (F.out _ (show (⟨b25, A25, n25, c25, _, _, _⟩ : NR) ∈ _ from (by repeat (first | exact m0 | apply m1)))).only hon hne25_7; have F1 := F; clear F; have F := F0.below (hcur.trans (hon.below hg7)); clear F1; replace hcur := hcur.trans (hon.below hg7); clear hon
          refine hK.out _ _ hcur (fun hHeld => ?_)
          clear hK K hHeld
          (try simp only [Act.put, pA, pB, pC, pD, pE, pF])
          refine wpAnyH_done (by kernel_rfl) ?_ _
          refine NoPanic.normal ?_
          obtain ⟨rfl⟩ := hQ7
          (go_wp2_with fail)
          go_meet
          exact ⟨g7, _, _, _, _, rfl, hcur, B7, (Fs.nil _).cons oo7⟩
        exact AllReadyH.nil
      refine AllReadyH.cons (o := _) rfl (fun K hK => ?_) ?_
      · refine st_alloc 7 rfl infoNum (cs := [.bool false, .slice none 0 0]) rfl ?_; intro g7 wn hb B7 hgn; have hg7 := Nat.le_trans hcur.size hgn; replace F := F.below hb; replace hcur := bthen hcur hb
        refine hK.out _ _ hcur (fun hHeld => ?_)
        clear hK K hHeld
        (try simp only [Act.put, pA, pB, pC, pD, pE, pF])
        refine wpAnyH_ready (rs := [1]) (by kernel_rfl) (by simp) ?_
        refine AllReadyH.cons (o := _) rfl (fun K hK => ?_) AllReadyH.nil
        go_simp; (with_reducible refine (cF F (by repeat (first | exact m0 | apply m1))).mono ?_); rintro e wn ⟨vn, rfl, ⟨b21, A21, n21, c21, rfl, o, hf⟩, hb⟩; replace F := (F.below hb).cons o; have hne21_7 := ner hf B7; have hfr21 := ltf hf; clear hf; replace B7 := B7.below hb; replace hcur := bthen hcur hb; go_wp2_with fail
        refine hK.out _ _ hcur (fun hHeld => ?_)
        clear hK K hHeld
        (try simp only [Act.put, pA, pB, pC, pD, pE, pF])
        refine wpAnyH_ready (rs := [3]) (by kernel_rfl) (by simp) ?_
        refine AllReadyH.cons (o := _) rfl (fun K hK => ?_) AllReadyH.nil
        go_simp; (with_reducible refine (cF F (by repeat (first | exact m0 | apply m1))).mono ?_); rintro e wn ⟨vn, rfl, ⟨b23, A23, n23, c23, rfl, o, hf⟩, hb⟩; replace F := (F.below hb).cons o; have hne23_7 := ner hf B7; have hfr23 := ltf hf; clear hf; replace B7 := B7.below hb; replace hfr21 := lte hfr21 hb; replace hcur := bthen hcur hb; go_wp2_with fail
        refine hK.out _ _ hcur (fun hHeld => ?_)
        clear hK K hHeld
        (try simp only [Act.put, pA, pB, pC, pD, pE, pF])
        refine wpAnyH_ready (rs := [4]) (by kernel_rfl) (by simp) ?_
        refine AllReadyH.cons (o := _) rfl (fun K hK => ?_) AllReadyH.nil
        refine st_lit (v := fun g => .slice (some ⟨g, 0, none⟩) 2 2) 24 rfl (cs := [.bool b21, .slice A21 n21 c21, .bool b23, .slice A23 n23 c23]) (t := 26) (by go_simp; try rfl) ?_; intro g24 wn hb Bl24 hg24; replace F := F.below hb; replace B7 := B7.below hb; replace hfr21 := lte hfr21 hb; replace hfr23 := lte hfr23 hb; replace hcur := bthen hcur hb
        refine hK.out _ _ hcur (fun hHeld => ?_)
        clear hK K hHeld
        (try simp only [Act.put, pA, pB, pC, pD, pE, pF])
        refine wpAnyH_ready (rs := [5]) (by kernel_rfl) (by simp) ?_
        refine AllReadyH.cons (o := _) rfl (fun K hK => ?_) AllReadyH.nil
        go_simp; (with_reducible refine (mulF F Bl24 (by repeat (first | exact m0 | apply m1)) (by repeat (first | exact m0 | apply m1)) (by omega)).mono ?_); rintro e wn ⟨vn, rfl, ⟨b25, A25, n25, c25, rfl, o, hf⟩, hb⟩; replace F := (F.below hb).cons o; have hne25_7 := ner hf B7; have hfr25 := ltf hf; clear hf; replace B7 := B7.below hb; replace Bl24 := Bl24.below hb; replace hfr21 := lte hfr21 hb; replace hfr23 := lte hfr23 hb; replace hcur := bthen hcur hb; go_wp2_with fail
        refine hK.out _ _ hcur (fun hHeld => ?_)
        clear hK K hHeld
        (try simp only [Act.put, pA, pB, pC, pD, pE, pF])
        refine wpAnyH_ready (rs := [7]) (by kernel_rfl) (by simp) ?_
        refine AllReadyH.cons (o := _) rfl (fun K hK => ?_) AllReadyH.nil
        refine st_store rfl rfl B7 (news := [.bool b25, .slice A25 n25 c25]) (by rfl) infoNum (by simp) (by simp [Value.oneCell']) ?_; intro wn hon Bx; replace B7 := st2 Bx; clear Bx; have oo7 : NR.Ok _ _ := (F.out _ (show (⟨b25, A25, n25, c25, _, _, _⟩ : NR) ∈ _ from (by repeat (first | exact m0 | apply m1)))).only hon hne25_7; have F1 := F; clear F; have F := F0.below (hcur.trans (hon.below hg7)); clear F1; replace hcur := hcur.trans (hon.below hg7); clear hon
        refine hK.out _ _ hcur (fun hHeld => ?_)
        clear hK K hHeld
        (try simp only [Act.put, pA, pB, pC, pD, pE, pF])
        refine wpAnyH_done (by kernel_rfl) ?_ _
        refine NoPanic.normal ?_
        obtain ⟨rfl⟩ := hQ7
        (go_wp2_with fail)
        go_meet
        exact ⟨g7, _, _, _, _, rfl, hcur, B7, (Fs.nil _).cons oo7⟩
      exact AllReadyH.nil
  case rest =>
    obtain ⟨g7, b7x, A7x, n7x, c7x, rfl, hbx, B7, Fx⟩ := hcut
    replace F0 := (F0.below hbx).cons (Fx.out _ (List.mem_cons_self ..))
    replace B3 := B3.below hbx
    replace B4 := B4.below hbx
    replace B5 := B5.below hbx
    replace hbt := bthen hbt hbx
    clear hbx Fx
    (go_wp2_with fail)
    go_cut [8] (fun s8 wx => ∃ (g8 : Nat) (b8 : Bool) (A8 : Option Addr) (n8 c8 : Nat), s8 = .pointer (some ⟨g8, 0, none⟩) ∧ Below wc.heap.size wc wx ∧ Blk wx g8 [.bool b8, .slice A8 n8 c8] 26 ∧ Fs wx [⟨b8, A8, n8, c8, z2 * z3, k2 + k3, true⟩])
    case first =>
      as_aux_lemma =>
        have hcur := (Below.refl wc.heap.size wc).drew
        have F := F0.below hcur
        refine wp_gen2 (fun Q7 hQ7 => ?_)
        refine wp_region_held_drew (S := fun W => Below wc.heap.size wc W) (by kernel_rfl) hcur (fun hHeld => ?_)
        clear hHeld
        refine tk (i := 0) (v := .agg #[.bool n2, .slice A2 k2 c2]) rfl (by kernel_rfl) (by kernel_rfl) (fun W hSw => by have Cb := (B4.below hSw).cells; (go_simp; (try (with_reducible rfl)))) hcur ?_
        (try simp only [Act.put, pA, pB, pC, pD, pE, pF])
        refine tk (i := 2) (v := .agg #[.bool n3, .slice A3 k3 c3]) rfl (by kernel_rfl) (by kernel_rfl) (fun W hSw => by have Cb := (B5.below hSw).cells; (go_simp; (try (with_reducible rfl)))) hcur ?_
        (try simp only [Act.put, pA, pB, pC, pD, pE, pF])
        refine wpAnyH_ready (rs := [1, 6]) (by kernel_rfl) (by simp) ?_
        refine AllReadyH.cons (o := _) rfl (fun K hK => ?_) ?_
        · go_simp; (with_reducible refine (cF F (by repeat (first | exact m0 | apply m1))).mono ?_); rintro e wn ⟨vn, rfl, ⟨b27, A27, n27, c27, rfl, o, hf⟩, hb⟩; replace F := (F.below hb).cons o; have hfr27 := ltf hf; clear hf; replace hcur := bthen hcur hb; go_wp2_with fail
          refine hK.out _ _ hcur (fun hHeld => ?_)
          clear hK K hHeld
          (try simp only [Act.put, pA, pB, pC, pD, pE, pF])
          refine wpAnyH_ready (rs := [3, 6]) (by kernel_rfl) (by simp) ?_
          refine AllReadyH.cons (o := _) rfl (fun K hK => ?_) ?_
          · go_simp; (with_reducible refine (cF F (by repeat (first | exact m0 | apply m1))).mono ?_); rintro e wn ⟨vn, rfl, ⟨b29, A29, n29, c29, rfl, o, hf⟩, hb⟩; replace F := (F.below hb).cons o; have hfr29 := ltf hf; clear hf; replace hfr27 := lte hfr27 hb; replace hcur := bthen hcur hb; go_wp2_with fail
            refine hK.out _ _ hcur (fun hHeld => ?_)
            clear hK K hHeld
            (try simp only [Act.put, pA, pB, pC, pD, pE, pF])
            refine wpAnyH_ready (rs := [4, 6]) (by kernel_rfl) (by simp) ?_
            refine AllReadyH.cons (o := _) rfl (fun K hK => ?_) ?_
            · refine st_lit (v := fun g => .slice (some ⟨g, 0, none⟩) 2 2) 30 rfl (cs := [.bool b27, .slice A27 n27 c27, .bool b29, .slice A29 n29 c29]) (t := 26) (by go_simp; try rfl) ?_; intro g30 wn hb Bl30 hg30; replace F := F.below hb; replace hfr27 := lte hfr27 hb; replace hfr29 := lte hfr29 hb; replace hcur := bthen hcur hb
              refine hK.out _ _ hcur (fun hHeld => ?_)
              clear hK K hHeld
              (try simp only [Act.put, pA, pB, pC, pD, pE, pF])
              refine wpAnyH_ready (rs := [5, 6]) (by kernel_rfl) (by simp) ?_
              refine AllReadyH.cons (o := _) rfl (fun K hK => ?_) ?_
              · go_simp; (with_reducible refine (mulF F Bl30 (by repeat (first | exact m0 | apply m1)) (by repeat (first | exact m0 | apply m1)) (by omega)).mono ?_); rintro e wn ⟨vn, rfl, ⟨b31, A31, n31, c31, rfl, o, hf⟩, hb⟩; replace F := (F.below hb).cons o; have hfr31 := ltf hf; clear hf; replace Bl30 := Bl30.below hb; replace hfr27 := lte hfr27 hb; replace hfr29 := lte hfr29 hb; replace hcur := bthen hcur hb; go_wp2_with fail
                refine hK.out _ _ hcur (fun hHeld => ?_)
                clear hK K hHeld
                (try simp only [Act.put, pA, pB, pC, pD, pE, pF])
                refine wpAnyH_ready (rs := [6]) (by kernel_rfl) (by simp) ?_
                refine AllReadyH.cons (o := _) rfl (fun K hK => ?_) AllReadyH.nil
                refine st_alloc 8 rfl infoNum (cs := [.bool false, .slice none 0 0]) rfl ?_; intro g8 wn hb B8 hgn; have hne27_8 := nal hfr27 hgn; have hne29_8 := nal hfr29 hgn; have hne31_8 := nal hfr31 hgn; have hg8 := Nat.le_trans hcur.size hgn; replace F := F.below hb; replace hfr27 := lte hfr27 hb; replace hfr29 := lte hfr29 hb; replace hfr31 := lte hfr31 hb; replace hcur := bthen hcur hb
                refine hK.out _ _ hcur (fun hHeld => ?_)
                clear hK K hHeld
                (try simp only [Act.put, pA, pB, pC, pD, pE, pF])
                refine wpAnyH_ready (rs := [7]) (by kernel_rfl) (by simp) ?_
                refine AllReadyH.cons (o := _) rfl (fun K hK => ?_) AllReadyH.nil
                refine st_store rfl rfl B8 (news := [.bool b31, .slice A31 n31 c31]) (by rfl) infoNum (by simp) (by simp [Value.oneCell']) ?_; intro wn hon Bx; replace B8 := st2 Bx; clear Bx; have oo8 : NR.Ok _ _ := (F.out _ (show (⟨b31, A31, n31, c31, _, _, _⟩ : NR) ∈ _ from (by repeat (first | exact m0 | apply m1)))).only hon hne31_8; have F1 := F; clear F; have F := F0.below (hcur.trans (hon.below hg8)); clear F1; replace hcur := hcur.trans (hon.below hg8); clear hon
                refine hK.out _ _ hcur (fun hHeld => ?_)
                clear hK K hHeld
                (try simp only [Act.put, pA, pB, pC, pD, pE, pF])
                refine wpAnyH_done (by kernel_rfl) ?_ _
                refine NoPanic.normal ?_
                obtain ⟨rfl⟩ := hQ7
                (go_wp2_with fail)
                go_meet
                exact ⟨g8, _, _, _, _, rfl, hcur, B8, (Fs.nil _).cons oo8⟩
              refine AllReadyH.cons (o := _) rfl (fun K hK => ?_) ?_
              · refine st_alloc 8 rfl infoNum (cs := [.bool false, .slice none 0 0]) rfl ?_; intro g8 wn hb B8 hgn; have hne27_8 := nal hfr27 hgn; have hne29_8 := nal hfr29 hgn; have hg8 := Nat.le_trans hcur.size hgn; replace F := F.below hb; replace Bl30 := Bl30.below hb; replace hfr27 := lte hfr27 hb; replace hfr29 := lte hfr29 hb; replace hcur := bthen hcur hb
                refine hK.out _ _ hcur (fun hHeld => ?_)
                clear hK K hHeld
                (try simp only [Act.put, pA, pB, pC, pD, pE, pF])
                refine wpAnyH_ready (rs := [5]) (by kernel_rfl) (by simp) ?_
                refine AllReadyH.cons (o := _) rfl (fun K hK => ?_) AllReadyH.nil
                go_simp; (with_reducible refine (mulF F Bl30 (by repeat (first | exact m0 | apply m1)) (by repeat (first | exact m0 | apply m1)) (by omega)).mono ?_); rintro e wn ⟨vn, rfl, ⟨b31, A31, n31, c31, rfl, o, hf⟩, hb⟩; replace F := (F.below hb).cons o; have hne31_8 := ner hf B8; have hfr31 := ltf hf; clear hf; replace B8 := B8.below hb; replace Bl30 := Bl30.below hb; replace hfr27 := lte hfr27 hb; replace hfr29 := lte hfr29 hb; replace hcur := bthen hcur hb; go_wp2_with fail
                refine hK.out _ _ hcur (fun hHeld => ?_)
                clear hK K hHeld
                (try simp only [Act.put, pA, pB, pC, pD, pE, pF])
                refine wpAnyH_ready (rs := [7]) (by kernel_rfl) (by simp) ?_
                refine AllReadyH.cons (o := _) rfl (fun K hK => ?_) AllReadyH.nil
                refine st_store rfl rfl B8 (news := [.bool b31, .slice A31 n31 c31]) (by rfl) infoNum (by simp) (by simp [Value.oneCell']) ?_; intro wn hon Bx; replace B8 := st2 Bx; clear Bx; have oo8 : NR.Ok _ _ := (F.out _ (show (⟨b31, A31, n31, c31, _, _, _⟩ : NR) ∈ _ from (by repeat (first | exact m0 | apply m1)))).only hon hne31_8; have F1 := F; clear F; have F := F0.below (hcur.trans (hon.below hg8)); clear F1; replace hcur := hcur.trans (hon.below hg8); clear hon
                refine hK.out _ _ hcur (fun hHeld => ?_)
                clear hK K hHeld
                (try simp only [Act.put, pA, pB, pC, pD, pE, pF])
                refine wpAnyH_done (by kernel_rfl) ?_ _
                refine NoPanic.normal ?_
                obtain ⟨rfl⟩ := hQ7
                (go_wp2_with fail)
                go_meet
                exact ⟨g8, _, _, _, _, rfl, hcur, B8, (Fs.nil _).cons oo8⟩
              exact AllReadyH.nil
            refine AllReadyH.cons (o := _) rfl (fun K hK => ?_) ?_
            · refine st_alloc 8 rfl infoNum (cs := [.bool false, .slice none 0 0]) rfl ?_; intro g8 wn hb B8 hgn; have hne27_8 := nal hfr27 hgn; have hne29_8 := nal hfr29 hgn; have hg8 := Nat.le_trans hcur.size hgn; replace F := F.below hb; replace hfr27 := lte hfr27 hb; replace hfr29 := lte hfr29 hb; replace hcur := bthen hcur hb
              refine hK.out _ _ hcur (fun hHeld => ?_)
              clear hK K hHeld
              (try simp only [Act.put, pA, pB, pC, pD, pE, pF])
              refine wpAnyH_ready (rs := [4]) (by kernel_rfl) (by simp) ?_
              refine AllReadyH.cons (o := _) rfl (fun K hK => ?_) AllReadyH.nil
              refine st_lit (v := fun g => .slice (some ⟨g, 0, none⟩) 2 2) 30 rfl (cs := [.bool b27, .slice A27 n27 c27, .bool b29, .slice A29 n29 c29]) (t := 26) (by go_simp; try rfl) ?_; intro g30 wn hb Bl30 hg30; replace F := F.below hb; replace B8 := B8.below hb; replace hfr27 := lte hfr27 hb; replace hfr29 := lte hfr29 hb; replace hcur := bthen hcur hb
              refine hK.out _ _ hcur (fun hHeld => ?_)
              clear hK K hHeld
              (try simp only [Act.put, pA, pB, pC, pD, pE, pF])
              refine wpAnyH_ready (rs := [5]) (by kernel_rfl) (by simp) ?_
              refine AllReadyH.cons (o := _) rfl (fun K hK => ?_) AllReadyH.nil
              go_simp; (with_reducible refine (mulF F Bl30 (by repeat (first | exact m0 | apply m1)) (by repeat (first | exact m0 | apply m1)) (by omega)).mono ?_); rintro e wn ⟨vn, rfl, ⟨b31, A31, n31, c31, rfl, o, hf⟩, hb⟩; replace F := (F.below hb).cons o; have hne31_8 := ner hf B8; have hfr31 := ltf hf; clear hf; replace B8 := B8.below hb; replace Bl30 := Bl30.below hb; replace hfr27 := lte hfr27 hb; replace hfr29 := lte hfr29 hb; replace hcur := bthen hcur hb; go_wp2_with fail
              refine hK.out _ _ hcur (fun hHeld => ?_)
              clear hK K hHeld
              (try simp only [Act.put, pA, pB, pC, pD, pE, pF])
              refine wpAnyH_ready (rs := [7]) (by kernel_rfl) (by simp) ?_
              refine AllReadyH.cons (o := _) rfl (fun K hK => ?_) AllReadyH.nil
              refine st_store rfl rfl B8 (news := [.bool b31, .slice A31 n31 c31]) (by rfl) infoNum (by simp) (by simp [Value.oneCell']) ?_; intro wn hon Bx; replace B8 := st2 Bx; clear Bx; have oo8 : NR.Ok _ _ := (F.out _ (show (⟨b31, A31, n31, c31, _, _, _⟩ : NR) ∈ _ from (by repeat (first | exact m0 | apply m1)))).only hon hne31_8; have F1 := F; clear F; have F := F0.below (hcur.trans (hon.below hg8)); clear F1; replace hcur := hcur.trans (hon.below hg8); clear hon
              refine hK.out _ _ hcur (fun hHeld => ?_)
              clear hK K hHeld
              (try simp only [Act.put, pA, pB, pC, pD, pE, pF])
              refine wpAnyH_done (by kernel_rfl) ?_ _
              refine NoPanic.normal ?_
              obtain ⟨rfl⟩ := hQ7
              (go_wp2_with fail)
              go_meet
              exact ⟨g8, _, _, _, _, rfl, hcur, B8, (Fs.nil _).cons oo8⟩
            exact AllReadyH.nil
          refine AllReadyH.cons (o := _) rfl (fun K hK => ?_) ?_
          · refine st_alloc 8 rfl infoNum (cs := [.bool false, .slice none 0 0]) rfl ?_; intro g8 wn hb B8 hgn; have hne27_8 := nal hfr27 hgn; have hg8 := Nat.le_trans hcur.size hgn; replace F := F.below hb; replace hfr27 := lte hfr27 hb; replace hcur := bthen hcur hb
            refine hK.out _ _ hcur (fun hHeld => ?_)
            clear hK K hHeld
            (try simp only [Act.put, pA, pB, pC, pD, pE, pF])
            refine wpAnyH_ready (rs := [3]) (by kernel_rfl) (by simp) ?_
            refine AllReadyH.cons (o := _) rfl (fun K hK => ?_) AllReadyH.nil
            go_simp; (with_reducible refine (cF F (by repeat (first | exact m0 | apply m1))).mono ?_); rintro e wn ⟨vn, rfl, ⟨b29, A29, n29, c29, rfl, o, hf⟩, hb⟩; replace F := (F.below hb).cons o; have hne29_8 := ner hf B8; have hfr29 := ltf hf; clear hf; replace B8 := B8.below hb; replace hfr27 := lte hfr27 hb; replace hcur := bthen hcur hb; go_wp2_with fail
            refine hK.out _ _ hcur (fun hHeld => ?_)
            clear hK K hHeld
            (try simp only [Act.put, pA, pB, pC, pD, pE, pF])
            refine wpAnyH_ready (rs := [4]) (by kernel_rfl) (by simp) ?_
            refine AllReadyH.cons (o := _) rfl (fun K hK => ?_) AllReadyH.nil
            refine st_lit (v := fun g => .slice (some ⟨g, 0, none⟩) 2 2) 30 rfl (cs := [.bool b27, .slice A27 n27 c27, .bool b29, .slice A29 n29 c29]) (t := 26) (by go_simp; try rfl) ?_; intro g30 wn hb Bl30 hg30; replace F := F.below hb; replace B8 := B8.below hb; replace hfr27 := lte hfr27 hb; replace hfr29 := lte hfr29 hb; replace hcur := bthen hcur hb
            refine hK.out _ _ hcur (fun hHeld => ?_)
            clear hK K hHeld
            (try simp only [Act.put, pA, pB, pC, pD, pE, pF])
            refine wpAnyH_ready (rs := [5]) (by kernel_rfl) (by simp) ?_
            refine AllReadyH.cons (o := _) rfl (fun K hK => ?_) AllReadyH.nil
            go_simp; (with_reducible refine (mulF F Bl30 (by repeat (first | exact m0 | apply m1)) (by repeat (first | exact m0 | apply m1)) (by omega)).mono ?_); rintro e wn ⟨vn, rfl, ⟨b31, A31, n31, c31, rfl, o, hf⟩, hb⟩; replace F := (F.below hb).cons o; have hne31_8 := ner hf B8; have hfr31 := ltf hf; clear hf; replace B8 := B8.below hb; replace Bl30 := Bl30.below hb; replace hfr27 := lte hfr27 hb; replace hfr29 := lte hfr29 hb; replace hcur := bthen hcur hb; go_wp2_with fail
            refine hK.out _ _ hcur (fun hHeld => ?_)
            clear hK K hHeld
            (try simp only [Act.put, pA, pB, pC, pD, pE, pF])
            refine wpAnyH_ready (rs := [7]) (by kernel_rfl) (by simp) ?_
            refine AllReadyH.cons (o := _) rfl (fun K hK => ?_) AllReadyH.nil
            refine st_store rfl rfl B8 (news := [.bool b31, .slice A31 n31 c31]) (by rfl) infoNum (by simp) (by simp [Value.oneCell']) ?_; intro wn hon Bx; replace B8 := st2 Bx; clear Bx; have oo8 : NR.Ok _ _ := (F.out _ (show (⟨b31, A31, n31, c31, _, _, _⟩ : NR) ∈ _ from (by repeat (first | exact m0 | apply m1)))).only hon hne31_8; have F1 := F; clear F; have F := F0.below (hcur.trans (hon.below hg8)); clear F1; replace hcur := hcur.trans (hon.below hg8); clear hon
            refine hK.out _ _ hcur (fun hHeld => ?_)
            clear hK K hHeld
            (try simp only [Act.put, pA, pB, pC, pD, pE, pF])
            refine wpAnyH_done (by kernel_rfl) ?_ _
            refine NoPanic.normal ?_
            obtain ⟨rfl⟩ := hQ7
            (go_wp2_with fail)
            go_meet
            exact ⟨g8, _, _, _, _, rfl, hcur, B8, (Fs.nil _).cons oo8⟩
          exact AllReadyH.nil
        refine AllReadyH.cons (o := _) rfl (fun K hK => ?_) ?_
        · refine st_alloc 8 rfl infoNum (cs := [.bool false, .slice none 0 0]) rfl ?_; intro g8 wn hb B8 hgn; have hg8 := Nat.le_trans hcur.size hgn; replace F := F.below hb; replace hcur := bthen hcur hb
          refine hK.out _ _ hcur (fun hHeld => ?_)
          clear hK K hHeld
          (try simp only [Act.put, pA, pB, pC, pD, pE, pF])
          refine wpAnyH_ready (rs := [1]) (by kernel_rfl) (by simp) ?_
          refine AllReadyH.cons (o := _) rfl (fun K hK => ?_) AllReadyH.nil
          go_simp; (with_reducible refine (cF F (by repeat (first | exact m0 | apply m1))).mono ?_); rintro e wn ⟨vn, rfl, ⟨b27, A27, n27, c27, rfl, o, hf⟩, hb⟩; replace F := (F.below hb).cons o; have hne27_8 := ner hf B8; have hfr27 := ltf hf; clear hf; replace B8 := B8.below hb; replace hcur := bthen hcur hb; go_wp2_with fail
          refine hK.out _ _ hcur (fun hHeld => ?_)
          clear hK K hHeld
          (try simp only [Act.put, pA, pB, pC, pD, pE, pF])
          refine wpAnyH_ready (rs := [3]) (by kernel_rfl) (by simp) ?_
          refine AllReadyH.cons (o := _) rfl (fun K hK => ?_) AllReadyH.nil
          go_simp; (with_reducible refine (cF F (by repeat (first | exact m0 | apply m1))).mono ?_); rintro e wn ⟨vn, rfl, ⟨b29, A29, n29, c29, rfl, o, hf⟩, hb⟩; replace F := (F.below hb).cons o; have hne29_8 := ner hf B8; have hfr29 := ltf hf; clear hf; replace B8 := B8.below hb; replace hfr27 := lte hfr27 hb; replace hcur := bthen hcur hb; go_wp2_with fail
          refine hK.out _ _ hcur (fun hHeld => ?_)
          clear hK K hHeld
          (try simp only [Act.put, pA, pB, pC, pD, pE, pF])
          refine wpAnyH_ready (rs := [4]) (by kernel_rfl) (by simp) ?_
          refine AllReadyH.cons (o := _) rfl (fun K hK => ?_) AllReadyH.nil
          refine st_lit (v := fun g => .slice (some ⟨g, 0, none⟩) 2 2) 30 rfl (cs := [.bool b27, .slice A27 n27 c27, .bool b29, .slice A29 n29 c29]) (t := 26) (by go_simp; try rfl) ?_; intro g30 wn hb Bl30 hg30; replace F := F.below hb; replace B8 := B8.below hb; replace hfr27 := lte hfr27 hb; replace hfr29 := lte hfr29 hb; replace hcur := bthen hcur hb
          refine hK.out _ _ hcur (fun hHeld => ?_)
          clear hK K hHeld
          (try simp only [Act.put, pA, pB, pC, pD, pE, pF])
          refine wpAnyH_ready (rs := [5]) (by kernel_rfl) (by simp) ?_
          refine AllReadyH.cons (o := _) rfl (fun K hK => ?_) AllReadyH.nil
          go_simp; (with_reducible refine (mulF F Bl30 (by repeat (first | exact m0 | apply m1)) (by repeat (first | exact m0 | apply m1)) (by omega)).mono ?_); rintro e wn ⟨vn, rfl, ⟨b31, A31, n31, c31, rfl, o, hf⟩, hb⟩; replace F := (F.below hb).cons o; have hne31_8 := ner hf B8; have hfr31 := ltf hf; clear hf; replace B8 := B8.below hb; replace Bl30 := Bl30.below hb; replace hfr27 := lte hfr27 hb; replace hfr29 := lte hfr29 hb; replace hcur := bthen hcur hb; go_wp2_with fail
          refine hK.out _ _ hcur (fun hHeld => ?_)
          clear hK K hHeld
          (try simp only [Act.put, pA, pB, pC, pD, pE, pF])
          refine wpAnyH_ready (rs := [7]) (by kernel_rfl) (by simp) ?_
          refine AllReadyH.cons (o := _) rfl (fun K hK => ?_) AllReadyH.nil
          refine st_store rfl rfl B8 (news := [.bool b31, .slice A31 n31 c31]) (by rfl) infoNum (by simp) (by simp [Value.oneCell']) ?_; intro wn hon Bx; replace B8 := st2 Bx; clear Bx; have oo8 : NR.Ok _ _ := (F.out _ (show (⟨b31, A31, n31, c31, _, _, _⟩ : NR) ∈ _ from (by repeat (first | exact m0 | apply m1)))).only hon hne31_8; have F1 := F; clear F; have F := F0.below (hcur.trans (hon.below hg8)); clear F1; replace hcur := hcur.trans (hon.below hg8); clear hon
          refine hK.out _ _ hcur (fun hHeld => ?_)
          clear hK K hHeld
          (try simp only [Act.put, pA, pB, pC, pD, pE, pF])
          refine wpAnyH_done (by kernel_rfl) ?_ _
          refine NoPanic.normal ?_
          obtain ⟨rfl⟩ := hQ7
          (go_wp2_with fail)
          go_meet
          exact ⟨g8, _, _, _, _, rfl, hcur, B8, (Fs.nil _).cons oo8⟩
        exact AllReadyH.nil
    case rest =>
      obtain ⟨g8, b8x, A8x, n8x, c8x, rfl, hbx, B8, Fx⟩ := hcut
      replace F0 := (F0.below hbx).cons (Fx.out _ (List.mem_cons_self ..))
      replace B3 := B3.below hbx
      replace B4 := B4.below hbx
      replace B5 := B5.below hbx
      replace B7 := B7.below hbx
      replace hbt := bthen hbt hbx
      clear hbx Fx
      obtain ⟨wd, rfl⟩ : ∃ wd : World, wd = wc := ⟨_, rfl⟩
      have hcur := Below.refl wd.heap.size wd
      have F := F0
      have C7 := B7.cells
      have C8 := B8.cells
      by_cases hd0 : d = 0
      · obtain ⟨hx0, hy0⟩ := H1.out hd0
        have HD0 : As (cmpZ ((d : Int)) (0) = 0) := ⟨by rw [cmpZ, if_neg (by omega), if_pos (by omega)]⟩
        have HX0 : As (cmpZ (z1 * z3) (0) = 0) := ⟨by rw [cmpZ, if_neg (by omega), if_pos (by omega)]⟩
        have HY0 : As (cmpZ (z2 * z3) (0) = 0) := ⟨by rw [cmpZ, if_neg (by omega), if_pos (by omega)]⟩
        clear hd0 hx0 hy0
        go_wp2_with (first
          | ((with_reducible refine g_dst 34 ?_); go_must (refine ev_lit (v := fun g => .slice (some ⟨g, 0, none⟩) 2 2) 34 rfl (cs := [.bool b7x, .slice A7x n7x c7x, .bool b8x, .slice A8x n8x c8x]) (t := 26) (by go_simp; try rfl) ?_); intro gl wn hbn Bl hgl; (try replace B3 := B3.below hbn); (try replace C3 := B3.cells); (try replace B4 := B4.below hbn); (try replace C4 := B4.cells); (try replace B5 := B5.below hbn); (try replace C5 := B5.cells); (try replace B7 := B7.below hbn); (try replace C7 := B7.cells); (try replace B8 := B8.below hbn); (try replace C8 := B8.cells); (try replace B9 := B9.below hbn); (try replace C9 := B9.cells); (try replace B10 := B10.below hbn); (try replace C10 := B10.cells); (try replace B11 := B11.below hbn); (try replace C11 := B11.cells); (try replace B12 := B12.below hbn); (try replace C12 := B12.cells); (try replace B14 := B14.below hbn); (try replace C14 := B14.cells); (try replace B15 := B15.below hbn); (try replace C15 := B15.cells); replace F := F.below hbn; replace hcur := bthen hcur hbn; clear hbn)
          | (go_at_call 39; (with_reducible refine (gcdF F Bl (by repeat (first | exact m0 | apply m1)) (by repeat (first | exact m0 | apply m1)) (by omega) d HD.out).mono ?_); rintro e wn ⟨vn, rfl, ⟨b35, A35, n35, c35, rfl, o35, f35⟩, hbn⟩; have lt35 := ltf f35; clear f35; clear Bl; (try replace B3 := B3.below hbn); (try replace C3 := B3.cells); (try replace B4 := B4.below hbn); (try replace C4 := B4.cells); (try replace B5 := B5.below hbn); (try replace C5 := B5.cells); (try replace B7 := B7.below hbn); (try replace C7 := B7.cells); (try replace B8 := B8.below hbn); (try replace C8 := B8.cells); (try replace B9 := B9.below hbn); (try replace C9 := B9.cells); (try replace B10 := B10.below hbn); (try replace C10 := B10.cells); (try replace B11 := B11.below hbn); (try replace C11 := B11.cells); (try replace B12 := B12.below hbn); (try replace C12 := B12.cells); (try replace B14 := B14.below hbn); (try replace C14 := B14.cells); (try replace B15 := B15.below hbn); (try replace C15 := B15.cells); replace F := F.below hbn; replace hcur := bthen hcur hbn; clear hbn; have hcd := Below.refl wn.heap.size wn)
          | ((with_reducible refine g_dst 9 ?_); go_must (refine ev_alloc 9 rfl infoNum (cs := [.bool false, .slice none 0 0]) rfl ?_); intro g9 wn hb B9 hgn; have hgd9 := Nat.le_trans hcd.size hgn; have hne35_9 := nal lt35 hgn; replace lt35 := lte lt35 hb; replace o35 := o35.below hb; replace hcd := bthen hcd hb; clear hb hgn)
          | ((with_reducible refine g_store 9 ?_); go_must (refine ev_store rfl rfl B9 (news := [.bool b35, .slice A35 n35 c35]) (by rfl) infoNum (by simp) (by simp [Value.oneCell']) ?_); intro wn hon Bn; replace B9 := st2 Bn; clear Bn; replace o35 := o35.only hon hne35_9; replace lt35 := lto lt35 hon; replace hcd := hcd.trans (hon.below hgd9); clear hon; (try replace B3 := B3.below hcd); (try replace C3 := B3.cells); (try replace B4 := B4.below hcd); (try replace C4 := B4.cells); (try replace B5 := B5.below hcd); (try replace C5 := B5.cells); (try replace B7 := B7.below hcd); (try replace C7 := B7.cells); (try replace B8 := B8.below hcd); (try replace C8 := B8.cells); (try replace B10 := B10.below hcd); (try replace C10 := B10.cells); (try replace B11 := B11.below hcd); (try replace C11 := B11.cells); (try replace B12 := B12.below hcd); (try replace C12 := B12.cells); (try replace B14 := B14.below hcd); (try replace C14 := B14.cells); (try replace B15 := B15.below hcd); (try replace C15 := B15.cells); replace F := ((F.below hcd).cons o35); replace hcur := bthen hcur hcd; clear hcd o35 lt35; have C9 := B9.cells)
          | (go_at_call 27; (with_reducible refine (ofF (0) (by omega) (by omega)).mono ?_); rintro e wn ⟨vn, rfl, ⟨b36, A36, n36, c36, rfl, o36, f36⟩, hbn⟩; have lt36 := ltf f36; clear f36; (try replace B3 := B3.below hbn); (try replace C3 := B3.cells); (try replace B4 := B4.below hbn); (try replace C4 := B4.cells); (try replace B5 := B5.below hbn); (try replace C5 := B5.cells); (try replace B7 := B7.below hbn); (try replace C7 := B7.cells); (try replace B8 := B8.below hbn); (try replace C8 := B8.cells); (try replace B9 := B9.below hbn); (try replace C9 := B9.cells); (try replace B10 := B10.below hbn); (try replace C10 := B10.cells); (try replace B11 := B11.below hbn); (try replace C11 := B11.cells); (try replace B12 := B12.below hbn); (try replace C12 := B12.cells); (try replace B14 := B14.below hbn); (try replace C14 := B14.cells); (try replace B15 := B15.below hbn); (try replace C15 := B15.cells); replace F := F.below hbn; replace hcur := bthen hcur hbn; clear hbn; have hcd := Below.refl wn.heap.size wn)
          | ((with_reducible refine g_dst 10 ?_); go_must (refine ev_alloc 10 rfl infoNum (cs := [.bool false, .slice none 0 0]) rfl ?_); intro g10 wn hb B10 hgn; have hgd10 := Nat.le_trans hcd.size hgn; have hne36_10 := nal lt36 hgn; replace lt36 := lte lt36 hb; replace o36 := o36.below hb; replace hcd := bthen hcd hb; clear hb hgn)
          | ((with_reducible refine g_store 10 ?_); go_must (refine ev_store rfl rfl B10 (news := [.bool b36, .slice A36 n36 c36]) (by rfl) infoNum (by simp) (by simp [Value.oneCell']) ?_); intro wn hon Bn; replace B10 := st2 Bn; clear Bn; replace o36 := o36.only hon hne36_10; replace lt36 := lto lt36 hon; replace hcd := hcd.trans (hon.below hgd10); clear hon; (try replace B3 := B3.below hcd); (try replace C3 := B3.cells); (try replace B4 := B4.below hcd); (try replace C4 := B4.cells); (try replace B5 := B5.below hcd); (try replace C5 := B5.cells); (try replace B7 := B7.below hcd); (try replace C7 := B7.cells); (try replace B8 := B8.below hcd); (try replace C8 := B8.cells); (try replace B9 := B9.below hcd); (try replace C9 := B9.cells); (try replace B11 := B11.below hcd); (try replace C11 := B11.cells); (try replace B12 := B12.below hcd); (try replace C12 := B12.cells); (try replace B14 := B14.below hcd); (try replace C14 := B14.cells); (try replace B15 := B15.below hcd); (try replace C15 := B15.cells); replace F := ((F.below hcd).cons o36); replace hcur := bthen hcur hcd; clear hcd o36 lt36; have C10 := B10.cells)
          | (go_at_call 33; (with_reducible refine (cmpF F (by repeat (first | exact m0 | apply m1)) (by repeat (first | exact m0 | apply m1)) (by omega) (0) HD0.out).mono ?_); rintro e wn ⟨vn, rfl, rfl, hbn⟩; (try replace B3 := B3.below hbn); (try replace C3 := B3.cells); (try replace B4 := B4.below hbn); (try replace C4 := B4.cells); (try replace B5 := B5.below hbn); (try replace C5 := B5.cells); (try replace B7 := B7.below hbn); (try replace C7 := B7.cells); (try replace B8 := B8.below hbn); (try replace C8 := B8.cells); (try replace B9 := B9.below hbn); (try replace C9 := B9.cells); (try replace B10 := B10.below hbn); (try replace C10 := B10.cells); (try replace B11 := B11.below hbn); (try replace C11 := B11.cells); (try replace B12 := B12.below hbn); (try replace C12 := B12.cells); (try replace B14 := B14.below hbn); (try replace C14 := B14.cells); (try replace B15 := B15.below hbn); (try replace C15 := B15.cells); replace F := F.below hbn; replace hcur := bthen hcur hbn; clear hbn)
          | (go_at_call 33; (with_reducible refine (cmpF F (by repeat (first | exact m0 | apply m1)) (by repeat (first | exact m0 | apply m1)) (by omega) (0) HX0.out).mono ?_); rintro e wn ⟨vn, rfl, rfl, hbn⟩; (try replace B3 := B3.below hbn); (try replace C3 := B3.cells); (try replace B4 := B4.below hbn); (try replace C4 := B4.cells); (try replace B5 := B5.below hbn); (try replace C5 := B5.cells); (try replace B7 := B7.below hbn); (try replace C7 := B7.cells); (try replace B8 := B8.below hbn); (try replace C8 := B8.cells); (try replace B9 := B9.below hbn); (try replace C9 := B9.cells); (try replace B10 := B10.below hbn); (try replace C10 := B10.cells); (try replace B11 := B11.below hbn); (try replace C11 := B11.cells); (try replace B12 := B12.below hbn); (try replace C12 := B12.cells); (try replace B14 := B14.below hbn); (try replace C14 := B14.cells); (try replace B15 := B15.below hbn); (try replace C15 := B15.cells); replace F := F.below hbn; replace hcur := bthen hcur hbn; clear hbn)
          | (go_at_call 33; (with_reducible refine (cmpF F (by repeat (first | exact m0 | apply m1)) (by repeat (first | exact m0 | apply m1)) (by omega) (0) HY0.out).mono ?_); rintro e wn ⟨vn, rfl, rfl, hbn⟩; (try replace B3 := B3.below hbn); (try replace C3 := B3.cells); (try replace B4 := B4.below hbn); (try replace C4 := B4.cells); (try replace B5 := B5.below hbn); (try replace C5 := B5.cells); (try replace B7 := B7.below hbn); (try replace C7 := B7.cells); (try replace B8 := B8.below hbn); (try replace C8 := B8.cells); (try replace B9 := B9.below hbn); (try replace C9 := B9.cells); (try replace B10 := B10.below hbn); (try replace C10 := B10.cells); (try replace B11 := B11.below hbn); (try replace C11 := B11.cells); (try replace B12 := B12.below hbn); (try replace C12 := B12.cells); (try replace B14 := B14.below hbn); (try replace C14 := B14.cells); (try replace B15 := B15.below hbn); (try replace C15 := B15.cells); replace F := F.below hbn; replace hcur := bthen hcur hbn; clear hbn)
          | (go_at_call 19; (with_reducible refine (awake02_any _ (HT.out.below (bthen hbt hcur))).mono ?_); rintro e wn ⟨vn, rfl, rfl, hbn⟩; replace hcur := bthen hcur hbn; clear hbn))
        go_ret
        exact ⟨_, rfl, rfl, bthen hbt hcur⟩
      · obtain ⟨hx, hy, hg⟩ := H2.out hd0
        have HTX : As (TQ (z1 * z3) (d : Int) ((z1 * z3).tdiv (d : Int)) 0 true) := ⟨.inr ⟨by omega, rfl, hx.symm, rfl⟩⟩
        have HTY : As (TQ (z2 * z3) (d : Int) ((z2 * z3).tdiv (d : Int)) 0 true) := ⟨.inr ⟨by omega, rfl, hy.symm, rfl⟩⟩
        have HTG : As (z3 ≠ 0 → TQ (d : Int) z3 ((d : Int).tdiv z3) 0 true) := ⟨fun h => .inr ⟨h, rfl, hg.symm, rfl⟩⟩
        have HD0 : As (cmpZ ((d : Int)) (0) = 1) := ⟨by rw [cmpZ, if_neg (by omega), if_neg (by omega)]⟩
        have HZ0 : As (cmpZ (0) (0) = 0) := ⟨by rw [cmpZ, if_neg (by omega), if_pos (by omega)]⟩
        clear hd0 hx hy hg
        go_wp2_with (first
          | ((with_reducible refine g_dst 34 ?_); go_must (refine ev_lit (v := fun g => .slice (some ⟨g, 0, none⟩) 2 2) 34 rfl (cs := [.bool b7x, .slice A7x n7x c7x, .bool b8x, .slice A8x n8x c8x]) (t := 26) (by go_simp; try rfl) ?_); intro gl wn hbn Bl hgl; (try replace B3 := B3.below hbn); (try replace C3 := B3.cells); (try replace B4 := B4.below hbn); (try replace C4 := B4.cells); (try replace B5 := B5.below hbn); (try replace C5 := B5.cells); (try replace B7 := B7.below hbn); (try replace C7 := B7.cells); (try replace B8 := B8.below hbn); (try replace C8 := B8.cells); (try replace B9 := B9.below hbn); (try replace C9 := B9.cells); (try replace B10 := B10.below hbn); (try replace C10 := B10.cells); (try replace B11 := B11.below hbn); (try replace C11 := B11.cells); (try replace B12 := B12.below hbn); (try replace C12 := B12.cells); (try replace B14 := B14.below hbn); (try replace C14 := B14.cells); (try replace B15 := B15.below hbn); (try replace C15 := B15.cells); replace F := F.below hbn; replace hcur := bthen hcur hbn; clear hbn)
          | (go_at_call 39; (with_reducible refine (gcdF F Bl (by repeat (first | exact m0 | apply m1)) (by repeat (first | exact m0 | apply m1)) (by omega) d HD.out).mono ?_); rintro e wn ⟨vn, rfl, ⟨b35, A35, n35, c35, rfl, o35, f35⟩, hbn⟩; have lt35 := ltf f35; clear f35; clear Bl; (try replace B3 := B3.below hbn); (try replace C3 := B3.cells); (try replace B4 := B4.below hbn); (try replace C4 := B4.cells); (try replace B5 := B5.below hbn); (try replace C5 := B5.cells); (try replace B7 := B7.below hbn); (try replace C7 := B7.cells); (try replace B8 := B8.below hbn); (try replace C8 := B8.cells); (try replace B9 := B9.below hbn); (try replace C9 := B9.cells); (try replace B10 := B10.below hbn); (try replace C10 := B10.cells); (try replace B11 := B11.below hbn); (try replace C11 := B11.cells); (try replace B12 := B12.below hbn); (try replace C12 := B12.cells); (try replace B14 := B14.below hbn); (try replace C14 := B14.cells); (try replace B15 := B15.below hbn); (try replace C15 := B15.cells); replace F := F.below hbn; replace hcur := bthen hcur hbn; clear hbn; have hcd := Below.refl wn.heap.size wn)
          | ((with_reducible refine g_dst 9 ?_); go_must (refine ev_alloc 9 rfl infoNum (cs := [.bool false, .slice none 0 0]) rfl ?_); intro g9 wn hb B9 hgn; have hgd9 := Nat.le_trans hcd.size hgn; have hne35_9 := nal lt35 hgn; replace lt35 := lte lt35 hb; replace o35 := o35.below hb; replace hcd := bthen hcd hb; clear hb hgn)
          | ((with_reducible refine g_store 9 ?_); go_must (refine ev_store rfl rfl B9 (news := [.bool b35, .slice A35 n35 c35]) (by rfl) infoNum (by simp) (by simp [Value.oneCell']) ?_); intro wn hon Bn; replace B9 := st2 Bn; clear Bn; replace o35 := o35.only hon hne35_9; replace lt35 := lto lt35 hon; replace hcd := hcd.trans (hon.below hgd9); clear hon; (try replace B3 := B3.below hcd); (try replace C3 := B3.cells); (try replace B4 := B4.below hcd); (try replace C4 := B4.cells); (try replace B5 := B5.below hcd); (try replace C5 := B5.cells); (try replace B7 := B7.below hcd); (try replace C7 := B7.cells); (try replace B8 := B8.below hcd); (try replace C8 := B8.cells); (try replace B10 := B10.below hcd); (try replace C10 := B10.cells); (try replace B11 := B11.below hcd); (try replace C11 := B11.cells); (try replace B12 := B12.below hcd); (try replace C12 := B12.cells); (try replace B14 := B14.below hcd); (try replace C14 := B14.cells); (try replace B15 := B15.below hcd); (try replace C15 := B15.cells); replace F := ((F.below hcd).cons o35); replace hcur := bthen hcur hcd; clear hcd o35 lt35; have C9 := B9.cells)
          | (go_at_call 27; (with_reducible refine (ofF (0) (by omega) (by omega)).mono ?_); rintro e wn ⟨vn, rfl, ⟨b36, A36, n36, c36, rfl, o36, f36⟩, hbn⟩; have lt36 := ltf f36; clear f36; (try replace B3 := B3.below hbn); (try replace C3 := B3.cells); (try replace B4 := B4.below hbn); (try replace C4 := B4.cells); (try replace B5 := B5.below hbn); (try replace C5 := B5.cells); (try replace B7 := B7.below hbn); (try replace C7 := B7.cells); (try replace B8 := B8.below hbn); (try replace C8 := B8.cells); (try replace B9 := B9.below hbn); (try replace C9 := B9.cells); (try replace B10 := B10.below hbn); (try replace C10 := B10.cells); (try replace B11 := B11.below hbn); (try replace C11 := B11.cells); (try replace B12 := B12.below hbn); (try replace C12 := B12.cells); (try replace B14 := B14.below hbn); (try replace C14 := B14.cells); (try replace B15 := B15.below hbn); (try replace C15 := B15.cells); replace F := F.below hbn; replace hcur := bthen hcur hbn; clear hbn; have hcd := Below.refl wn.heap.size wn)
          | ((with_reducible refine g_dst 10 ?_); go_must (refine ev_alloc 10 rfl infoNum (cs := [.bool false, .slice none 0 0]) rfl ?_); intro g10 wn hb B10 hgn; have hgd10 := Nat.le_trans hcd.size hgn; have hne36_10 := nal lt36 hgn; replace lt36 := lte lt36 hb; replace o36 := o36.below hb; replace hcd := bthen hcd hb; clear hb hgn)
          | ((with_reducible refine g_store 10 ?_); go_must (refine ev_store rfl rfl B10 (news := [.bool b36, .slice A36 n36 c36]) (by rfl) infoNum (by simp) (by simp [Value.oneCell']) ?_); intro wn hon Bn; replace B10 := st2 Bn; clear Bn; replace o36 := o36.only hon hne36_10; replace lt36 := lto lt36 hon; replace hcd := hcd.trans (hon.below hgd10); clear hon; (try replace B3 := B3.below hcd); (try replace C3 := B3.cells); (try replace B4 := B4.below hcd); (try replace C4 := B4.cells); (try replace B5 := B5.below hcd); (try replace C5 := B5.cells); (try replace B7 := B7.below hcd); (try replace C7 := B7.cells); (try replace B8 := B8.below hcd); (try replace C8 := B8.cells); (try replace B9 := B9.below hcd); (try replace C9 := B9.cells); (try replace B11 := B11.below hcd); (try replace C11 := B11.cells); (try replace B12 := B12.below hcd); (try replace C12 := B12.cells); (try replace B14 := B14.below hcd); (try replace C14 := B14.cells); (try replace B15 := B15.below hcd); (try replace C15 := B15.cells); replace F := ((F.below hcd).cons o36); replace hcur := bthen hcur hcd; clear hcd o36 lt36; have C10 := B10.cells)
          | (go_at_call 20; (with_reducible refine (truncF F (by repeat (first | exact m0 | apply m1)) (by repeat (first | exact m0 | apply m1)) HTX.out (by omega)).mono ?_); rintro e wn ⟨vn, rfl, ⟨qv, rv, rfl, ⟨b57, A57, n57, c57, rfl, o57, f57⟩, ⟨b58, A58, n58, c58, rfl, o58, f58⟩⟩, hbn⟩; have lt57 := ltf f57; clear f57; have lt58 := ltf f58; clear f58; (try replace B3 := B3.below hbn); (try replace C3 := B3.cells); (try replace B4 := B4.below hbn); (try replace C4 := B4.cells); (try replace B5 := B5.below hbn); (try replace C5 := B5.cells); (try replace B7 := B7.below hbn); (try replace C7 := B7.cells); (try replace B8 := B8.below hbn); (try replace C8 := B8.cells); (try replace B9 := B9.below hbn); (try replace C9 := B9.cells); (try replace B10 := B10.below hbn); (try replace C10 := B10.cells); (try replace B11 := B11.below hbn); (try replace C11 := B11.cells); (try replace B12 := B12.below hbn); (try replace C12 := B12.cells); (try replace B14 := B14.below hbn); (try replace C14 := B14.cells); (try replace B15 := B15.below hbn); (try replace C15 := B15.cells); replace F := F.below hbn; replace hcur := bthen hcur hbn; clear hbn; have hcd := Below.refl wn.heap.size wn)
          | ((with_reducible refine g_dst 11 ?_); go_must (refine ev_alloc 11 rfl infoNum (cs := [.bool false, .slice none 0 0]) rfl ?_); intro g11 wn hb B11 hgn; have hgd11 := Nat.le_trans hcd.size hgn; have hne57_11 := nal lt57 hgn; replace lt57 := lte lt57 hb; replace o57 := o57.below hb; have hne58_11 := nal lt58 hgn; replace lt58 := lte lt58 hb; replace o58 := o58.below hb; replace hcd := bthen hcd hb; clear hb hgn)
          | ((with_reducible refine g_dst 12 ?_); go_must (refine ev_alloc 12 rfl infoNum (cs := [.bool false, .slice none 0 0]) rfl ?_); intro g12 wn hb B12 hgn; have hgd12 := Nat.le_trans hcd.size hgn; have hne57_12 := nal lt57 hgn; replace lt57 := lte lt57 hb; replace o57 := o57.below hb; have hne58_12 := nal lt58 hgn; replace lt58 := lte lt58 hb; replace o58 := o58.below hb; have hneb12_11 := nbx B11 hgn; replace B11 := B11.below hb; replace hcd := bthen hcd hb; clear hb hgn)
          | ((with_reducible refine g_store 11 ?_); go_must (refine ev_store rfl rfl B11 (news := [.bool b57, .slice A57 n57 c57]) (by rfl) infoNum (by simp) (by simp [Value.oneCell']) ?_); intro wn hon Bn; replace B11 := st2 Bn; clear Bn; replace B12 := B12.only hon hneb12_11; replace o57 := o57.only hon hne57_11; replace lt57 := lto lt57 hon; replace o58 := o58.only hon hne58_11; replace lt58 := lto lt58 hon; replace hcd := hcd.trans (hon.below hgd11); clear hon)
          | ((with_reducible refine g_store 12 ?_); go_must (refine ev_store rfl rfl B12 (news := [.bool b58, .slice A58 n58 c58]) (by rfl) infoNum (by simp) (by simp [Value.oneCell']) ?_); intro wn hon Bn; replace B12 := st2 Bn; clear Bn; replace B11 := B11.only hon (Ne.symm hneb12_11); replace o57 := o57.only hon hne57_12; replace lt57 := lto lt57 hon; replace o58 := o58.only hon hne58_12; replace lt58 := lto lt58 hon; replace hcd := hcd.trans (hon.below hgd12); clear hon; (try replace B3 := B3.below hcd); (try replace C3 := B3.cells); (try replace B4 := B4.below hcd); (try replace C4 := B4.cells); (try replace B5 := B5.below hcd); (try replace C5 := B5.cells); (try replace B7 := B7.below hcd); (try replace C7 := B7.cells); (try replace B8 := B8.below hcd); (try replace C8 := B8.cells); (try replace B9 := B9.below hcd); (try replace C9 := B9.cells); (try replace B10 := B10.below hcd); (try replace C10 := B10.cells); (try replace B14 := B14.below hcd); (try replace C14 := B14.cells); (try replace B15 := B15.below hcd); (try replace C15 := B15.cells); replace F := (((F.below hcd).cons o58).cons o57); replace hcur := bthen hcur hcd; clear hcd o58 lt58 o57 lt57; have C11 := B11.cells; have C12 := B12.cells)
          | (go_at_call 20; (with_reducible refine (truncF F (by repeat (first | exact m0 | apply m1)) (by repeat (first | exact m0 | apply m1)) HTY.out (by omega)).mono ?_); rintro e wn ⟨vn, rfl, ⟨qv, rv, rfl, ⟨b64, A64, n64, c64, rfl, o64, f64⟩, ⟨b65, A65, n65, c65, rfl, o65, f65⟩⟩, hbn⟩; have lt64 := ltf f64; clear f64; have lt65 := ltf f65; clear f65; (try replace B3 := B3.below hbn); (try replace C3 := B3.cells); (try replace B4 := B4.below hbn); (try replace C4 := B4.cells); (try replace B5 := B5.below hbn); (try replace C5 := B5.cells); (try replace B7 := B7.below hbn); (try replace C7 := B7.cells); (try replace B8 := B8.below hbn); (try replace C8 := B8.cells); (try replace B9 := B9.below hbn); (try replace C9 := B9.cells); (try replace B10 := B10.below hbn); (try replace C10 := B10.cells); (try replace B11 := B11.below hbn); (try replace C11 := B11.cells); (try replace B12 := B12.below hbn); (try replace C12 := B12.cells); (try replace B14 := B14.below hbn); (try replace C14 := B14.cells); (try replace B15 := B15.below hbn); (try replace C15 := B15.cells); replace F := F.below hbn; replace hcur := bthen hcur hbn; clear hbn; have hcd := Below.refl wn.heap.size wn)
          | ((with_reducible refine g_dst 14 ?_); go_must (refine ev_alloc 14 rfl infoNum (cs := [.bool false, .slice none 0 0]) rfl ?_); intro g14 wn hb B14 hgn; have hgd14 := Nat.le_trans hcd.size hgn; have hne64_14 := nal lt64 hgn; replace lt64 := lte lt64 hb; replace o64 := o64.below hb; have hne65_14 := nal lt65 hgn; replace lt65 := lte lt65 hb; replace o65 := o65.below hb; replace hcd := bthen hcd hb; clear hb hgn)
          | ((with_reducible refine g_dst 15 ?_); go_must (refine ev_alloc 15 rfl infoNum (cs := [.bool false, .slice none 0 0]) rfl ?_); intro g15 wn hb B15 hgn; have hgd15 := Nat.le_trans hcd.size hgn; have hne64_15 := nal lt64 hgn; replace lt64 := lte lt64 hb; replace o64 := o64.below hb; have hne65_15 := nal lt65 hgn; replace lt65 := lte lt65 hb; replace o65 := o65.below hb; have hneb15_14 := nbx B14 hgn; replace B14 := B14.below hb; replace hcd := bthen hcd hb; clear hb hgn)
          | ((with_reducible refine g_store 14 ?_); go_must (refine ev_store rfl rfl B14 (news := [.bool b64, .slice A64 n64 c64]) (by rfl) infoNum (by simp) (by simp [Value.oneCell']) ?_); intro wn hon Bn; replace B14 := st2 Bn; clear Bn; replace B15 := B15.only hon hneb15_14; replace o64 := o64.only hon hne64_14; replace lt64 := lto lt64 hon; replace o65 := o65.only hon hne65_14; replace lt65 := lto lt65 hon; replace hcd := hcd.trans (hon.below hgd14); clear hon)
          | ((with_reducible refine g_store 15 ?_); go_must (refine ev_store rfl rfl B15 (news := [.bool b65, .slice A65 n65 c65]) (by rfl) infoNum (by simp) (by simp [Value.oneCell']) ?_); intro wn hon Bn; replace B15 := st2 Bn; clear Bn; replace B14 := B14.only hon (Ne.symm hneb15_14); replace o64 := o64.only hon hne64_15; replace lt64 := lto lt64 hon; replace o65 := o65.only hon hne65_15; replace lt65 := lto lt65 hon; replace hcd := hcd.trans (hon.below hgd15); clear hon; (try replace B3 := B3.below hcd); (try replace C3 := B3.cells); (try replace B4 := B4.below hcd); (try replace C4 := B4.cells); (try replace B5 := B5.below hcd); (try replace C5 := B5.cells); (try replace B7 := B7.below hcd); (try replace C7 := B7.cells); (try replace B8 := B8.below hcd); (try replace C8 := B8.cells); (try replace B9 := B9.below hcd); (try replace C9 := B9.cells); (try replace B10 := B10.below hcd); (try replace C10 := B10.cells); (try replace B11 := B11.below hcd); (try replace C11 := B11.cells); (try replace B12 := B12.below hcd); (try replace C12 := B12.cells); replace F := (((F.below hcd).cons o65).cons o64); replace hcur := bthen hcur hcd; clear hcd o65 lt65 o64 lt64; have C14 := B14.cells; have C15 := B15.cells)
          | (go_at_call 33; (with_reducible refine (cmpF F (by repeat (first | exact m0 | apply m1)) (by repeat (first | exact m0 | apply m1)) (by omega) (0) HZ0.out).mono ?_); rintro e wn ⟨vn, rfl, rfl, hbn⟩; (try replace B3 := B3.below hbn); (try replace C3 := B3.cells); (try replace B4 := B4.below hbn); (try replace C4 := B4.cells); (try replace B5 := B5.below hbn); (try replace C5 := B5.cells); (try replace B7 := B7.below hbn); (try replace C7 := B7.cells); (try replace B8 := B8.below hbn); (try replace C8 := B8.cells); (try replace B9 := B9.below hbn); (try replace C9 := B9.cells); (try replace B10 := B10.below hbn); (try replace C10 := B10.cells); (try replace B11 := B11.below hbn); (try replace C11 := B11.cells); (try replace B12 := B12.below hbn); (try replace C12 := B12.cells); (try replace B14 := B14.below hbn); (try replace C14 := B14.cells); (try replace B15 := B15.below hbn); (try replace C15 := B15.cells); replace F := F.below hbn; replace hcur := bthen hcur hbn; clear hbn)
          | (go_at_call 33; (with_reducible refine (cmpF F (by repeat (first | exact m0 | apply m1)) (by repeat (first | exact m0 | apply m1)) (by omega) (1) HD0.out).mono ?_); rintro e wn ⟨vn, rfl, rfl, hbn⟩; (try replace B3 := B3.below hbn); (try replace C3 := B3.cells); (try replace B4 := B4.below hbn); (try replace C4 := B4.cells); (try replace B5 := B5.below hbn); (try replace C5 := B5.cells); (try replace B7 := B7.below hbn); (try replace C7 := B7.cells); (try replace B8 := B8.below hbn); (try replace C8 := B8.cells); (try replace B9 := B9.below hbn); (try replace C9 := B9.cells); (try replace B10 := B10.below hbn); (try replace C10 := B10.cells); (try replace B11 := B11.below hbn); (try replace C11 := B11.cells); (try replace B12 := B12.below hbn); (try replace C12 := B12.cells); (try replace B14 := B14.below hbn); (try replace C14 := B14.cells); (try replace B15 := B15.below hbn); (try replace C15 := B15.cells); replace F := F.below hbn; replace hcur := bthen hcur hbn; clear hbn))
        replace hbt := bthen hbt hcur
        have F1 := F
        clear hcur F F0
        (try clear C7)
        (try clear C8)
        (try clear C9)
        (try clear C10)
        (try clear C11)
        (try clear C12)
        (try clear C14)
        (try clear C15)
        obtain ⟨we, rfl⟩ : ∃ we : World, we = wn := ⟨_, rfl⟩
        have F0 := F1
        clear F1
        by_cases hg0 : z3 = 0
        · have HG : As (cmpZ (z3) (0) = 0) := ⟨by rw [cmpZ, if_neg (by omega), if_pos (by omega)]⟩
          clear hg0
          have hcur := (Below.refl we.heap.size we).drew
          have F := F0.below hcur
          refine wp_gen2 (fun Q7 hQ7 => ?_)
          refine wp_region_held_drew (S := fun W => Below we.heap.size we W) (by kernel_rfl) hcur (fun hHeld => ?_)
          clear hHeld
          refine tk (i := 0) (v := .agg #[.bool n3, .slice A3 k3 c3]) rfl (by kernel_rfl) (by kernel_rfl) (fun W hSw => by have Cb := (B5.below hSw).cells; (go_simp; (try (with_reducible rfl)))) hcur ?_
          (try simp only [Act.put, pA, pB, pC, pD, pE, pF])
          refine tk (i := 2) (v := .agg #[.bool b36, .slice A36 n36 c36]) rfl (by kernel_rfl) (by kernel_rfl) (fun W hSw => by have Cb := (B10.below hSw).cells; (go_simp; (try (with_reducible rfl)))) hcur ?_
          (try simp only [Act.put, pA, pB, pC, pD, pE, pF])
          refine wpAnyH_ready (rs := [1]) (by kernel_rfl) (by simp) ?_
          refine AllReadyH.cons (o := _) rfl (fun K hK => ?_) AllReadyH.nil
          go_simp; (with_reducible refine (cF F (by repeat (first | exact m0 | apply m1))).mono ?_); rintro e wn ⟨vn, rfl, ⟨b93, A93, n93, c93, rfl, o, hf⟩, hb⟩; replace F := (F.below hb).cons o; have hfr93 := ltf hf; clear hf; replace hcur := bthen hcur hb; go_wp2_with fail
          refine hK.out _ _ hcur (fun hHeld => ?_)
          clear hK K hHeld
          (try simp only [Act.put, pA, pB, pC, pD, pE, pF])
          refine wpAnyH_ready (rs := [3]) (by kernel_rfl) (by simp) ?_
          refine AllReadyH.cons (o := _) rfl (fun K hK => ?_) AllReadyH.nil
          go_simp; (with_reducible refine (cmpF F (by repeat (first | exact m0 | apply m1)) (by repeat (first | exact m0 | apply m1)) (by omega) (0) HG.out).mono ?_); rintro e wn ⟨vn, rfl, rfl, hb⟩; replace F := F.below hb; replace hfr93 := lte hfr93 hb; replace hcur := bthen hcur hb; go_wp2_with fail
          refine hK.out _ _ hcur (fun hHeld => ?_)
          clear hK K hHeld
          (try simp only [Act.put, pA, pB, pC, pD, pE, pF])
          refine tk (i := 4) (v := .bool true) rfl (by kernel_rfl) (by kernel_rfl) (fun W hSw => by (go_simp; (try (with_reducible rfl)))) hcur ?_
          (try simp only [Act.put, pA, pB, pC, pD, pE, pF])
          refine wpAnyH_done (by kernel_rfl) ?_ _
          refine NoPanic.normal ?_
          obtain ⟨rfl⟩ := hQ7
          go_wp2_with (first
            | (go_at_call 19; (with_reducible refine (awake02_any _ (HT.out.below (bthen hbt hcur))).mono ?_); rintro e wn ⟨vn, rfl, rfl, hbn⟩; replace hcur := bthen hcur hbn; clear hbn))
          go_ret
          exact ⟨_, rfl, rfl, bthen hbt hcur⟩
        · have HTZ := As.mk (HTG.out hg0)
          obtain ⟨v, hv, HG⟩ : ∃ v, (v == (0 : Int)) = false ∧ As (cmpZ z3 0 = v) := by
            rcases Int.lt_or_gt_of_ne hg0 with h | h
            · exact ⟨-1, rfl, ⟨by rw [cmpZ, if_pos (by omega)]⟩⟩
            · exact ⟨1, rfl, ⟨by rw [cmpZ, if_neg (by omega), if_neg (by omega)]⟩⟩
          clear hg0 HTG
          have hcur := (Below.refl we.heap.size we).drew
          have F := F0.below hcur
          refine wp_gen2 (fun Q7 hQ7 => ?_)
          refine wp_region_held_drew (S := fun W => Below we.heap.size we W) (by kernel_rfl) hcur (fun hHeld => ?_)
          clear hHeld
          refine tk (i := 0) (v := .agg #[.bool n3, .slice A3 k3 c3]) rfl (by kernel_rfl) (by kernel_rfl) (fun W hSw => by have Cb := (B5.below hSw).cells; (go_simp; (try (with_reducible rfl)))) hcur ?_
          (try simp only [Act.put, pA, pB, pC, pD, pE, pF])
          refine tk (i := 2) (v := .agg #[.bool b36, .slice A36 n36 c36]) rfl (by kernel_rfl) (by kernel_rfl) (fun W hSw => by have Cb := (B10.below hSw).cells; (go_simp; (try (with_reducible rfl)))) hcur ?_
          (try simp only [Act.put, pA, pB, pC, pD, pE, pF])
          refine wpAnyH_ready (rs := [1]) (by kernel_rfl) (by simp) ?_
          refine AllReadyH.cons (o := _) rfl (fun K hK => ?_) AllReadyH.nil
          go_simp; (with_reducible refine (cF F (by repeat (first | exact m0 | apply m1))).mono ?_); rintro e wn ⟨vn, rfl, ⟨b93, A93, n93, c93, rfl, o, hf⟩, hb⟩; replace F := (F.below hb).cons o; have hfr93 := ltf hf; clear hf; replace hcur := bthen hcur hb; go_wp2_with fail
          refine hK.out _ _ hcur (fun hHeld => ?_)
          clear hK K hHeld
          (try simp only [Act.put, pA, pB, pC, pD, pE, pF])
          refine wpAnyH_ready (rs := [3]) (by kernel_rfl) (by simp) ?_
          refine AllReadyH.cons (o := _) rfl (fun K hK => ?_) AllReadyH.nil
          go_simp; (with_reducible refine (cmpF F (by repeat (first | exact m0 | apply m1)) (by repeat (first | exact m0 | apply m1)) (by omega) v HG.out).mono ?_); rintro e wn ⟨vn, rfl, rfl, hb⟩; replace F := F.below hb; replace hfr93 := lte hfr93 hb; replace hcur := bthen hcur hb; go_wp2_with fail
          refine hK.out _ _ hcur (fun hHeld => ?_)
          clear hK K hHeld
          (try simp only [Act.put, pA, pB, pC, pD, pE, pF])
          refine tk (i := 4) (v := .bool false) rfl (by kernel_rfl) (by kernel_rfl) (fun W hSw => by (go_simp; (try (with_reducible rfl)))) hcur ?_
          (try simp only [Act.put, pA, pB, pC, pD, pE, pF])
          refine wpAnyH_done (by kernel_rfl) ?_ _
          refine NoPanic.normal ?_
          obtain ⟨rfl⟩ := hQ7
          (go_wp2_with fail)
          replace F0 := F0.below hcur
          replace B5 := B5.below hcur
          replace B9 := B9.below hcur
          replace B10 := B10.below hcur
          replace hbt := bthen hbt hcur
          clear hcur F
          obtain ⟨wf, rfl⟩ : ∃ wf : World, wf = wn := ⟨_, rfl⟩
          have hcur := (Below.refl wf.heap.size wf).drew
          have F := F0.below hcur
          refine wp_gen2 (fun Q7 hQ7 => ?_)
          refine wp_region_held_drew (S := fun W => Below wf.heap.size wf W) (by kernel_rfl) hcur (fun hHeld => ?_)
          clear hHeld
          refine tk (i := 0) (v := .agg #[.bool b35, .slice A35 n35 c35]) rfl (by kernel_rfl) (by kernel_rfl) (fun W hSw => by have Cb := (B9.below hSw).cells; (go_simp; (try (with_reducible rfl)))) hcur ?_
          (try simp only [Act.put, pA, pB, pC, pD, pE, pF])
          refine tk (i := 1) (v := .agg #[.bool n3, .slice A3 k3 c3]) rfl (by kernel_rfl) (by kernel_rfl) (fun W hSw => by have Cb := (B5.below hSw).cells; (go_simp; (try (with_reducible rfl)))) hcur ?_
          (try simp only [Act.put, pA, pB, pC, pD, pE, pF])
          refine wpAnyH_ready (rs := [2, 8, 9]) (by kernel_rfl) (by simp) ?_
          refine AllReadyH.cons (o := _) rfl (fun K hK => ?_) ?_
          · go_simp; (with_reducible refine (cF F (by repeat (first | exact m0 | apply m1))).mono ?_); rintro e wn ⟨vn, rfl, ⟨b101, A101, n101, c101, rfl, o, hf⟩, hb⟩; replace F := (F.below hb).cons o; have hfr101 := ltf hf; clear hf; replace hcur := bthen hcur hb; go_wp2_with fail
            refine hK.out _ _ hcur (fun hHeld => ?_)
            clear hK K hHeld
            (try simp only [Act.put, pA, pB, pC, pD, pE, pF])
            refine wpAnyH_ready (rs := [3, 8, 9]) (by kernel_rfl) (by simp) ?_
            refine AllReadyH.cons (o := _) rfl (fun K hK => ?_) ?_
            · go_simp; (with_reducible refine (truncF F (by repeat (first | exact m0 | apply m1)) (by repeat (first | exact m0 | apply m1)) HTZ.out (by omega)).mono ?_); rintro e wn ⟨vn, rfl, ⟨qn, rn, rfl, ⟨b102, A102, n102, c102, rfl, o, hf⟩, ⟨b102r, A102r, n102r, c102r, rfl, o2, hf2⟩⟩, hb⟩; replace F := ((F.below hb).cons o).cons o2; have hfr102 := ltf hf; have hfr102r := ltf hf2; clear hf hf2; replace hfr101 := lte hfr101 hb; replace hcur := bthen hcur hb; go_wp2_with fail
              refine hK.out _ _ hcur (fun hHeld => ?_)
              clear hK K hHeld
              (try simp only [Act.put, pA, pB, pC, pD, pE, pF])
              refine tk (i := 4) (v := .tuple #[.agg #[.bool b102, .slice A102 n102 c102], .agg #[.bool b102r, .slice A102r n102r c102r], .bool true]) rfl (by kernel_rfl) (by kernel_rfl) (fun W hSw => by (go_simp; (try (with_reducible rfl)))) hcur ?_
              (try simp only [Act.put, pA, pB, pC, pD, pE, pF])
              refine tk (i := 5) (v := .agg #[.bool b102, .slice A102 n102 c102]) rfl (by kernel_rfl) (by kernel_rfl) (fun W hSw => by (go_simp; (try (with_reducible rfl)))) hcur ?_
              (try simp only [Act.put, pA, pB, pC, pD, pE, pF])
              refine tk (i := 6) (v := .agg #[.bool b102r, .slice A102r n102r c102r]) rfl (by kernel_rfl) (by kernel_rfl) (fun W hSw => by (go_simp; (try (with_reducible rfl)))) hcur ?_
              (try simp only [Act.put, pA, pB, pC, pD, pE, pF])
              refine tk (i := 7) (v := .bool true) rfl (by kernel_rfl) (by kernel_rfl) (fun W hSw => by (go_simp; (try (with_reducible rfl)))) hcur ?_
              (try simp only [Act.put, pA, pB, pC, pD, pE, pF])
              refine wpAnyH_ready (rs := [8, 9]) (by kernel_rfl) (by simp) ?_
              refine AllReadyH.cons (o := _) rfl (fun K hK => ?_) ?_
              · refine st_alloc 17 rfl infoNum (cs := [.bool false, .slice none 0 0]) rfl ?_; intro g17 wn hb B17 hgn; have hne101_17 := nal hfr101 hgn; have hne102_17 := nal hfr102 hgn; have hne102r_17 := nal hfr102r hgn; have hg17 := Nat.le_trans hcur.size hgn; replace F := F.below hb; replace hfr101 := lte hfr101 hb; replace hfr102 := lte hfr102 hb; replace hfr102r := lte hfr102r hb; replace hcur := bthen hcur hb
                refine hK.out _ _ hcur (fun hHeld => ?_)
                clear hK K hHeld
                (try simp only [Act.put, pA, pB, pC, pD, pE, pF])
                refine wpAnyH_ready (rs := [9]) (by kernel_rfl) (by simp) ?_
                refine AllReadyH.cons (o := _) rfl (fun K hK => ?_) AllReadyH.nil
                refine st_alloc 18 rfl infoNum (cs := [.bool false, .slice none 0 0]) rfl ?_; intro g18 wn hb B18 hgn; have hneb18_17 := nbx B17 hgn; have hne101_18 := nal hfr101 hgn; have hne102_18 := nal hfr102 hgn; have hne102r_18 := nal hfr102r hgn; have hg18 := Nat.le_trans hcur.size hgn; replace F := F.below hb; replace B17 := B17.below hb; replace hfr101 := lte hfr101 hb; replace hfr102 := lte hfr102 hb; replace hfr102r := lte hfr102r hb; replace hcur := bthen hcur hb
                refine hK.out _ _ hcur (fun hHeld => ?_)
                clear hK K hHeld
                (try simp only [Act.put, pA, pB, pC, pD, pE, pF])
                refine wpAnyH_ready (rs := [10]) (by kernel_rfl) (by simp) ?_
                refine AllReadyH.cons (o := _) rfl (fun K hK => ?_) AllReadyH.nil
                refine st_store rfl rfl B17 (news := [.bool b102, .slice A102 n102 c102]) (by rfl) infoNum (by simp) (by simp [Value.oneCell']) ?_; intro wn hon Bx; replace B17 := st2 Bx; clear Bx; replace B18 := B18.only hon hneb18_17; have oo17 : NR.Ok _ _ := (F.out _ (show (⟨b102, A102, n102, c102, _, _, _⟩ : NR) ∈ _ from (by repeat (first | exact m0 | apply m1)))).only hon hne102_17; have F1 := F; clear F; have F := F0.below (hcur.trans (hon.below hg17)); replace F := F.cons ((F1.out _ (show (⟨b102r, A102r, n102r, c102r, _, _, _⟩ : NR) ∈ _ from (by repeat (first | exact m0 | apply m1)))).only hon hne102r_17); clear F1; replace hcur := hcur.trans (hon.below hg17); clear hon
                refine hK.out _ _ hcur (fun hHeld => ?_)
                clear hK K hHeld
                (try simp only [Act.put, pA, pB, pC, pD, pE, pF])
                refine wpAnyH_ready (rs := [11]) (by kernel_rfl) (by simp) ?_
                refine AllReadyH.cons (o := _) rfl (fun K hK => ?_) AllReadyH.nil
                refine st_store rfl rfl B18 (news := [.bool b102r, .slice A102r n102r c102r]) (by rfl) infoNum (by simp) (by simp [Value.oneCell']) ?_; intro wn hon Bx; replace B18 := st2 Bx; clear Bx; replace B17 := B17.only hon (Ne.symm hneb18_17); have oo18 : NR.Ok _ _ := (F.out _ (show (⟨b102r, A102r, n102r, c102r, _, _, _⟩ : NR) ∈ _ from (by repeat (first | exact m0 | apply m1)))).only hon hne102r_18; replace oo17 := oo17.only hon hne102_18; have F1 := F; clear F; have F := F0.below (hcur.trans (hon.below hg18)); clear F1; replace hcur := hcur.trans (hon.below hg18); clear hon
                refine hK.out _ _ hcur (fun hHeld => ?_)
                clear hK K hHeld
                (try simp only [Act.put, pA, pB, pC, pD, pE, pF])
                refine wpAnyH_ready (rs := [12]) (by kernel_rfl) (by simp) ?_
                refine AllReadyH.cons (o := _) rfl (fun K hK => ?_) AllReadyH.nil
                go_simp
                refine hK.out _ _ hcur (fun hHeld => ?_)
                clear hK K hHeld
                (try simp only [Act.put, pA, pB, pC, pD, pE, pF])
                refine wpAnyH_done (by kernel_rfl) ?_ _
                refine NoPanic.normal ?_
                obtain ⟨rfl⟩ := hQ7
                have C10 := (B10.below hcur).cells
                have C18 := B18.cells
                have hb13 := hcur
                replace F := (F0.below hcur).cons oo18
                go_wp2_with (first
                  | (go_at_call 33; (with_reducible refine (cmpF F (by repeat (first | exact m0 | apply m1)) (by repeat (first | exact m0 | apply m1)) (by omega) (0) HZ0.out).mono ?_); rintro e wn ⟨vn, rfl, rfl, hbn⟩; replace hcur := bthen hcur hbn; clear hbn)
                  | (go_at_call 19; (with_reducible refine (awake02_any _ (HT.out.below (bthen hbt hcur))).mono ?_); rintro e wn ⟨vn, rfl, rfl, hbn⟩; replace hcur := bthen hcur hbn; clear hbn))
                go_ret
                exact ⟨_, rfl, rfl, bthen hbt hcur⟩
              refine AllReadyH.cons (o := _) rfl (fun K hK => ?_) ?_
              · refine st_alloc 18 rfl infoNum (cs := [.bool false, .slice none 0 0]) rfl ?_; intro g18 wn hb B18 hgn; have hne101_18 := nal hfr101 hgn; have hne102_18 := nal hfr102 hgn; have hne102r_18 := nal hfr102r hgn; have hg18 := Nat.le_trans hcur.size hgn; replace F := F.below hb; replace hfr101 := lte hfr101 hb; replace hfr102 := lte hfr102 hb; replace hfr102r := lte hfr102r hb; replace hcur := bthen hcur hb
                refine hK.out _ _ hcur (fun hHeld => ?_)
                clear hK K hHeld
                (try simp only [Act.put, pA, pB, pC, pD, pE, pF])
                refine wpAnyH_ready (rs := [8]) (by kernel_rfl) (by simp) ?_
                refine AllReadyH.cons (o := _) rfl (fun K hK => ?_) AllReadyH.nil
                refine st_alloc 17 rfl infoNum (cs := [.bool false, .slice none 0 0]) rfl ?_; intro g17 wn hb B17 hgn; have hneb17_18 := nbx B18 hgn; have hne101_17 := nal hfr101 hgn; have hne102_17 := nal hfr102 hgn; have hne102r_17 := nal hfr102r hgn; have hg17 := Nat.le_trans hcur.size hgn; replace F := F.below hb; replace B18 := B18.below hb; replace hfr101 := lte hfr101 hb; replace hfr102 := lte hfr102 hb; replace hfr102r := lte hfr102r hb; replace hcur := bthen hcur hb
                refine hK.out _ _ hcur (fun hHeld => ?_)
                clear hK K hHeld
                (try simp only [Act.put, pA, pB, pC, pD, pE, pF])
                refine wpAnyH_ready (rs := [10]) (by kernel_rfl) (by simp) ?_
                refine AllReadyH.cons (o := _) rfl (fun K hK => ?_) AllReadyH.nil
                refine st_store rfl rfl B17 (news := [.bool b102, .slice A102 n102 c102]) (by rfl) infoNum (by simp) (by simp [Value.oneCell']) ?_; intro wn hon Bx; replace B17 := st2 Bx; clear Bx; replace B18 := B18.only hon (Ne.symm hneb17_18); have oo17 : NR.Ok _ _ := (F.out _ (show (⟨b102, A102, n102, c102, _, _, _⟩ : NR) ∈ _ from (by repeat (first | exact m0 | apply m1)))).only hon hne102_17; have F1 := F; clear F; have F := F0.below (hcur.trans (hon.below hg17)); replace F := F.cons ((F1.out _ (show (⟨b102r, A102r, n102r, c102r, _, _, _⟩ : NR) ∈ _ from (by repeat (first | exact m0 | apply m1)))).only hon hne102r_17); clear F1; replace hcur := hcur.trans (hon.below hg17); clear hon
                refine hK.out _ _ hcur (fun hHeld => ?_)
                clear hK K hHeld
                (try simp only [Act.put, pA, pB, pC, pD, pE, pF])
                refine wpAnyH_ready (rs := [11]) (by kernel_rfl) (by simp) ?_
                refine AllReadyH.cons (o := _) rfl (fun K hK => ?_) AllReadyH.nil
                refine st_store rfl rfl B18 (news := [.bool b102r, .slice A102r n102r c102r]) (by rfl) infoNum (by simp) (by simp [Value.oneCell']) ?_; intro wn hon Bx; replace B18 := st2 Bx; clear Bx; replace B17 := B17.only hon hneb17_18; have oo18 : NR.Ok _ _ := (F.out _ (show (⟨b102r, A102r, n102r, c102r, _, _, _⟩ : NR) ∈ _ from (by repeat (first | exact m0 | apply m1)))).only hon hne102r_18; replace oo17 := oo17.only hon hne102_18; have F1 := F; clear F; have F := F0.below (hcur.trans (hon.below hg18)); clear F1; replace hcur := hcur.trans (hon.below hg18); clear hon
                refine hK.out _ _ hcur (fun hHeld => ?_)
                clear hK K hHeld
                (try simp only [Act.put, pA, pB, pC, pD, pE, pF])
                refine wpAnyH_ready (rs := [12]) (by kernel_rfl) (by simp) ?_
                refine AllReadyH.cons (o := _) rfl (fun K hK => ?_) AllReadyH.nil
                go_simp
                refine hK.out _ _ hcur (fun hHeld => ?_)
                clear hK K hHeld
                (try simp only [Act.put, pA, pB, pC, pD, pE, pF])
                refine wpAnyH_done (by kernel_rfl) ?_ _
                refine NoPanic.normal ?_
                obtain ⟨rfl⟩ := hQ7
                have C10 := (B10.below hcur).cells
                have C18 := B18.cells
                have hb13 := hcur
                replace F := (F0.below hcur).cons oo18
                go_wp2_with (first
                  | (go_at_call 33; (with_reducible refine (cmpF F (by repeat (first | exact m0 | apply m1)) (by repeat (first | exact m0 | apply m1)) (by omega) (0) HZ0.out).mono ?_); rintro e wn ⟨vn, rfl, rfl, hbn⟩; replace hcur := bthen hcur hbn; clear hbn)
                  | (go_at_call 19; (with_reducible refine (awake02_any _ (HT.out.below (bthen hbt hcur))).mono ?_); rintro e wn ⟨vn, rfl, rfl, hbn⟩; replace hcur := bthen hcur hbn; clear hbn))
                go_ret
                exact ⟨_, rfl, rfl, bthen hbt hcur⟩
              exact AllReadyH.nil
            refine AllReadyH.cons (o := _) rfl (fun K hK => ?_) ?_
            · refine st_alloc 17 rfl infoNum (cs := [.bool false, .slice none 0 0]) rfl ?_; intro g17 wn hb B17 hgn; have hne101_17 := nal hfr101 hgn; have hg17 := Nat.le_trans hcur.size hgn; replace F := F.below hb; replace hfr101 := lte hfr101 hb; replace hcur := bthen hcur hb
              refine hK.out _ _ hcur (fun hHeld => ?_)
              clear hK K hHeld
              (try simp only [Act.put, pA, pB, pC, pD, pE, pF])
              refine wpAnyH_ready (rs := [3, 9]) (by kernel_rfl) (by simp) ?_
              refine AllReadyH.cons (o := _) rfl (fun K hK => ?_) ?_
              · go_simp; (with_reducible refine (truncF F (by repeat (first | exact m0 | apply m1)) (by repeat (first | exact m0 | apply m1)) HTZ.out (by omega)).mono ?_); rintro e wn ⟨vn, rfl, ⟨qn, rn, rfl, ⟨b102, A102, n102, c102, rfl, o, hf⟩, ⟨b102r, A102r, n102r, c102r, rfl, o2, hf2⟩⟩, hb⟩; replace F := ((F.below hb).cons o).cons o2; have hne102_17 := ner hf B17; have hne102r_17 := ner hf2 B17; have hfr102 := ltf hf; have hfr102r := ltf hf2; clear hf hf2; replace B17 := B17.below hb; replace hfr101 := lte hfr101 hb; replace hcur := bthen hcur hb; go_wp2_with fail
                refine hK.out _ _ hcur (fun hHeld => ?_)
                clear hK K hHeld
                (try simp only [Act.put, pA, pB, pC, pD, pE, pF])
                refine tk (i := 4) (v := .tuple #[.agg #[.bool b102, .slice A102 n102 c102], .agg #[.bool b102r, .slice A102r n102r c102r], .bool true]) rfl (by kernel_rfl) (by kernel_rfl) (fun W hSw => by (go_simp; (try (with_reducible rfl)))) hcur ?_
                (try simp only [Act.put, pA, pB, pC, pD, pE, pF])
                refine tk (i := 5) (v := .agg #[.bool b102, .slice A102 n102 c102]) rfl (by kernel_rfl) (by kernel_rfl) (fun W hSw => by (go_simp; (try (with_reducible rfl)))) hcur ?_
                (try simp only [Act.put, pA, pB, pC, pD, pE, pF])
                refine tk (i := 6) (v := .agg #[.bool b102r, .slice A102r n102r c102r]) rfl (by kernel_rfl) (by kernel_rfl) (fun W hSw => by (go_simp; (try (with_reducible rfl)))) hcur ?_
                (try simp only [Act.put, pA, pB, pC, pD, pE, pF])
                refine tk (i := 7) (v := .bool true) rfl (by kernel_rfl) (by kernel_rfl) (fun W hSw => by (go_simp; (try (with_reducible rfl)))) hcur ?_
                (try simp only [Act.put, pA, pB, pC, pD, pE, pF])
                refine wpAnyH_ready (rs := [9]) (by kernel_rfl) (by simp) ?_
                refine AllReadyH.cons (o := _) rfl (fun K hK => ?_) AllReadyH.nil
                refine st_alloc 18 rfl infoNum (cs := [.bool false, .slice none 0 0]) rfl ?_; intro g18 wn hb B18 hgn; have hneb18_17 := nbx B17 hgn; have hne101_18 := nal hfr101 hgn; have hne102_18 := nal hfr102 hgn; have hne102r_18 := nal hfr102r hgn; have hg18 := Nat.le_trans hcur.size hgn; replace F := F.below hb; replace B17 := B17.below hb; replace hfr101 := lte hfr101 hb; replace hfr102 := lte hfr102 hb; replace hfr102r := lte hfr102r hb; replace hcur := bthen hcur hb
                refine hK.out _ _ hcur (fun hHeld => ?_)
                clear hK K hHeld
                (try simp only [Act.put, pA, pB, pC, pD, pE, pF])
                refine wpAnyH_ready (rs := [10]) (by kernel_rfl) (by simp) ?_
                refine AllReadyH.cons (o := _) rfl (fun K hK => ?_) AllReadyH.nil
                refine st_store rfl rfl B17 (news := [.bool b102, .slice A102 n102 c102]) (by rfl) infoNum (by simp) (by simp [Value.oneCell']) ?_; intro wn hon Bx; replace B17 := st2 Bx; clear Bx; replace B18 := B18.only hon hneb18_17; have oo17 : NR.Ok _ _ := (F.out _ (show (⟨b102, A102, n102, c102, _, _, _⟩ : NR) ∈ _ from (by repeat (first | exact m0 | apply m1)))).only hon hne102_17; have F1 := F; clear F; have F := F0.below (hcur.trans (hon.below hg17)); replace F := F.cons ((F1.out _ (show (⟨b102r, A102r, n102r, c102r, _, _, _⟩ : NR) ∈ _ from (by repeat (first | exact m0 | apply m1)))).only hon hne102r_17); clear F1; replace hcur := hcur.trans (hon.below hg17); clear hon
                refine hK.out _ _ hcur (fun hHeld => ?_)
                clear hK K hHeld
                (try simp only [Act.put, pA, pB, pC, pD, pE, pF])
                refine wpAnyH_ready (rs := [11]) (by kernel_rfl) (by simp) ?_
                refine AllReadyH.cons (o := _) rfl (fun K hK => ?_) AllReadyH.nil
                refine st_store rfl rfl B18 (news := [.bool b102r, .slice A102r n102r c102r]) (by rfl) infoNum (by simp) (by simp [Value.oneCell']) ?_; intro wn hon Bx; replace B18 := st2 Bx; clear Bx; replace B17 := B17.only hon (Ne.symm hneb18_17); have oo18 : NR.Ok _ _ := (F.out _ (show (⟨b102r, A102r, n102r, c102r, _, _, _⟩ : NR) ∈ _ from (by repeat (first | exact m0 | apply m1)))).only hon hne102r_18; replace oo17 := oo17.only hon hne102_18; have F1 := F; clear F; have F := F0.below (hcur.trans (hon.below hg18)); clear F1; replace hcur := hcur.trans (hon.below hg18); clear hon
                refine hK.out _ _ hcur (fun hHeld => ?_)
                clear hK K hHeld
                (try simp only [Act.put, pA, pB, pC, pD, pE, pF])
                refine wpAnyH_ready (rs := [12]) (by kernel_rfl) (by simp) ?_
                refine AllReadyH.cons (o := _) rfl (fun K hK => ?_) AllReadyH.nil
                go_simp
                refine hK.out _ _ hcur (fun hHeld => ?_)
                clear hK K hHeld
                (try simp only [Act.put, pA, pB, pC, pD, pE, pF])
                refine wpAnyH_done (by kernel_rfl) ?_ _
                refine NoPanic.normal ?_
                obtain ⟨rfl⟩ := hQ7
                have C10 := (B10.below hcur).cells
                have C18 := B18.cells
                have hb13 := hcur
                replace F := (F0.below hcur).cons oo18
                go_wp2_with (first
                  | (go_at_call 33; (with_reducible refine (cmpF F (by repeat (first | exact m0 | apply m1)) (by repeat (first | exact m0 | apply m1)) (by omega) (0) HZ0.out).mono ?_); rintro e wn ⟨vn, rfl, rfl, hbn⟩; replace hcur := bthen hcur hbn; clear hbn)
                  | (go_at_call 19; (with_reducible refine (awake02_any _ (HT.out.below (bthen hbt hcur))).mono ?_); rintro e wn ⟨vn, rfl, rfl, hbn⟩; replace hcur := bthen hcur hbn; clear hbn))
                go_ret
                exact ⟨_, rfl, rfl, bthen hbt hcur⟩
              refine AllReadyH.cons (o := _) rfl (fun K hK => ?_) ?_
              · refine st_alloc 18 rfl infoNum (cs := [.bool false, .slice none 0 0]) rfl ?_; intro g18 wn hb B18 hgn; have hneb18_17 := nbx B17 hgn; have hne101_18 := nal hfr101 hgn; have hg18 := Nat.le_trans hcur.size hgn; replace F := F.below hb; replace B17 := B17.below hb; replace hfr101 := lte hfr101 hb; replace hcur := bthen hcur hb
                refine hK.out _ _ hcur (fun hHeld => ?_)
                clear hK K hHeld
                (try simp only [Act.put, pA, pB, pC, pD, pE, pF])
                refine wpAnyH_ready (rs := [3]) (by kernel_rfl) (by simp) ?_
                refine AllReadyH.cons (o := _) rfl (fun K hK => ?_) AllReadyH.nil
                go_simp; (with_reducible refine (truncF F (by repeat (first | exact m0 | apply m1)) (by repeat (first | exact m0 | apply m1)) HTZ.out (by omega)).mono ?_); rintro e wn ⟨vn, rfl, ⟨qn, rn, rfl, ⟨b102, A102, n102, c102, rfl, o, hf⟩, ⟨b102r, A102r, n102r, c102r, rfl, o2, hf2⟩⟩, hb⟩; replace F := ((F.below hb).cons o).cons o2; have hne102_17 := ner hf B17; have hne102r_17 := ner hf2 B17; have hne102_18 := ner hf B18; have hne102r_18 := ner hf2 B18; have hfr102 := ltf hf; have hfr102r := ltf hf2; clear hf hf2; replace B17 := B17.below hb; replace B18 := B18.below hb; replace hfr101 := lte hfr101 hb; replace hcur := bthen hcur hb; go_wp2_with fail
                refine hK.out _ _ hcur (fun hHeld => ?_)
                clear hK K hHeld
                (try simp only [Act.put, pA, pB, pC, pD, pE, pF])
                refine tk (i := 4) (v := .tuple #[.agg #[.bool b102, .slice A102 n102 c102], .agg #[.bool b102r, .slice A102r n102r c102r], .bool true]) rfl (by kernel_rfl) (by kernel_rfl) (fun W hSw => by (go_simp; (try (with_reducible rfl)))) hcur ?_
                (try simp only [Act.put, pA, pB, pC, pD, pE, pF])
                refine tk (i := 5) (v := .agg #[.bool b102, .slice A102 n102 c102]) rfl (by kernel_rfl) (by kernel_rfl) (fun W hSw => by (go_simp; (try (with_reducible rfl)))) hcur ?_
                (try simp only [Act.put, pA, pB, pC, pD, pE, pF])
                refine tk (i := 6) (v := .agg #[.bool b102r, .slice A102r n102r c102r]) rfl (by kernel_rfl) (by kernel_rfl) (fun W hSw => by (go_simp; (try (with_reducible rfl)))) hcur ?_
                (try simp only [Act.put, pA, pB, pC, pD, pE, pF])
                refine tk (i := 7) (v := .bool true) rfl (by kernel_rfl) (by kernel_rfl) (fun W hSw => by (go_simp; (try (with_reducible rfl)))) hcur ?_
                (try simp only [Act.put, pA, pB, pC, pD, pE, pF])
                refine wpAnyH_ready (rs := [10]) (by kernel_rfl) (by simp) ?_
                refine AllReadyH.cons (o := _) rfl (fun K hK => ?_) AllReadyH.nil
                refine st_store rfl rfl B17 (news := [.bool b102, .slice A102 n102 c102]) (by rfl) infoNum (by simp) (by simp [Value.oneCell']) ?_; intro wn hon Bx; replace B17 := st2 Bx; clear Bx; replace B18 := B18.only hon hneb18_17; have oo17 : NR.Ok _ _ := (F.out _ (show (⟨b102, A102, n102, c102, _, _, _⟩ : NR) ∈ _ from (by repeat (first | exact m0 | apply m1)))).only hon hne102_17; have F1 := F; clear F; have F := F0.below (hcur.trans (hon.below hg17)); replace F := F.cons ((F1.out _ (show (⟨b102r, A102r, n102r, c102r, _, _, _⟩ : NR) ∈ _ from (by repeat (first | exact m0 | apply m1)))).only hon hne102r_17); clear F1; replace hcur := hcur.trans (hon.below hg17); clear hon
                refine hK.out _ _ hcur (fun hHeld => ?_)
                clear hK K hHeld
                (try simp only [Act.put, pA, pB, pC, pD, pE, pF])
                refine wpAnyH_ready (rs := [11]) (by kernel_rfl) (by simp) ?_
                refine AllReadyH.cons (o := _) rfl (fun K hK => ?_) AllReadyH.nil
                refine st_store rfl rfl B18 (news := [.bool b102r, .slice A102r n102r c102r]) (by rfl) infoNum (by simp) (by simp [Value.oneCell']) ?_; intro wn hon Bx; replace B18 := st2 Bx; clear Bx; replace B17 := B17.only hon (Ne.symm hneb18_17); have oo18 : NR.Ok _ _ := (F.out _ (show (⟨b102r, A102r, n102r, c102r, _, _, _⟩ : NR) ∈ _ from (by repeat (first | exact m0 | apply m1)))).only hon hne102r_18; replace oo17 := oo17.only hon hne102_18; have F1 := F; clear F; have F := F0.below (hcur.trans (hon.below hg18)); clear F1; replace hcur := hcur.trans (hon.below hg18); clear hon
                refine hK.out _ _ hcur (fun hHeld => ?_)
                clear hK K hHeld
                (try simp only [Act.put, pA, pB, pC, pD, pE, pF])
                refine wpAnyH_ready (rs := [12]) (by kernel_rfl) (by simp) ?_
                refine AllReadyH.cons (o := _) rfl (fun K hK => ?_) AllReadyH.nil
                go_simp
                refine hK.out _ _ hcur (fun hHeld => ?_)
                clear hK K hHeld
                (try simp only [Act.put, pA, pB, pC, pD, pE, pF])
                refine wpAnyH_done (by kernel_rfl) ?_ _
                refine NoPanic.normal ?_
                obtain ⟨rfl⟩ := hQ7
                have C10 := (B10.below hcur).cells
                have C18 := B18.cells
                have hb13 := hcur
                replace F := (F0.below hcur).cons oo18
                go_wp2_with (first
                  | (go_at_call 33; (with_reducible refine (cmpF F (by repeat (first | exact m0 | apply m1)) (by repeat (first | exact m0 | apply m1)) (by omega) (0) HZ0.out).mono ?_); rintro e wn ⟨vn, rfl, rfl, hbn⟩; replace hcur := bthen hcur hbn; clear hbn)
                  | (go_at_call 19; (with_reducible refine (awake02_any _ (HT.out.below (bthen hbt hcur))).mono ?_); rintro e wn ⟨vn, rfl, rfl, hbn⟩; replace hcur := bthen hcur hbn; clear hbn))
                go_ret
                exact ⟨_, rfl, rfl, bthen hbt hcur⟩
              exact AllReadyH.nil
            refine AllReadyH.cons (o := _) rfl (fun K hK => ?_) ?_
            · refine st_alloc 18 rfl infoNum (cs := [.bool false, .slice none 0 0]) rfl ?_; intro g18 wn hb B18 hgn; have hne101_18 := nal hfr101 hgn; have hg18 := Nat.le_trans hcur.size hgn; replace F := F.below hb; replace hfr101 := lte hfr101 hb; replace hcur := bthen hcur hb
              refine hK.out _ _ hcur (fun hHeld => ?_)
              clear hK K hHeld
              (try simp only [Act.put, pA, pB, pC, pD, pE, pF])
              refine wpAnyH_ready (rs := [3, 8]) (by kernel_rfl) (by simp) ?_
              refine AllReadyH.cons (o := _) rfl (fun K hK => ?_) ?_
              · go_simp; (with_reducible refine (truncF F (by repeat (first | exact m0 | apply m1)) (by repeat (first | exact m0 | apply m1)) HTZ.out (by omega)).mono ?_); rintro e wn ⟨vn, rfl, ⟨qn, rn, rfl, ⟨b102, A102, n102, c102, rfl, o, hf⟩, ⟨b102r, A102r, n102r, c102r, rfl, o2, hf2⟩⟩, hb⟩; replace F := ((F.below hb).cons o).cons o2; have hne102_18 := ner hf B18; have hne102r_18 := ner hf2 B18; have hfr102 := ltf hf; have hfr102r := ltf hf2; clear hf hf2; replace B18 := B18.below hb; replace hfr101 := lte hfr101 hb; replace hcur := bthen hcur hb; go_wp2_with fail
                refine hK.out _ _ hcur (fun hHeld => ?_)
                clear hK K hHeld
                (try simp only [Act.put, pA, pB, pC, pD, pE, pF])
                refine tk (i := 4) (v := .tuple #[.agg #[.bool b102, .slice A102 n102 c102], .agg #[.bool b102r, .slice A102r n102r c102r], .bool true]) rfl (by kernel_rfl) (by kernel_rfl) (fun W hSw => by (go_simp; (try (with_reducible rfl)))) hcur ?_
                (try simp only [Act.put, pA, pB, pC, pD, pE, pF])
                refine tk (i := 5) (v := .agg #[.bool b102, .slice A102 n102 c102]) rfl (by kernel_rfl) (by kernel_rfl) (fun W hSw => by (go_simp; (try (with_reducible rfl)))) hcur ?_
                (try simp only [Act.put, pA, pB, pC, pD, pE, pF])
                refine tk (i := 6) (v := .agg #[.bool b102r, .slice A102r n102r c102r]) rfl (by kernel_rfl) (by kernel_rfl) (fun W hSw => by (go_simp; (try (with_reducible rfl)))) hcur ?_
                (try simp only [Act.put, pA, pB, pC, pD, pE, pF])
                refine tk (i := 7) (v := .bool true) rfl (by kernel_rfl) (by kernel_rfl) (fun W hSw => by (go_simp; (try (with_reducible rfl)))) hcur ?_
                (try simp only [Act.put, pA, pB, pC, pD, pE, pF])
                refine wpAnyH_ready (rs := [8]) (by kernel_rfl) (by simp) ?_
                refine AllReadyH.cons (o := _) rfl (fun K hK => ?_) AllReadyH.nil
                refine st_alloc 17 rfl infoNum (cs := [.bool false, .slice none 0 0]) rfl ?_; intro g17 wn hb B17 hgn; have hneb17_18 := nbx B18 hgn; have hne101_17 := nal hfr101 hgn; have hne102_17 := nal hfr102 hgn; have hne102r_17 := nal hfr102r hgn; have hg17 := Nat.le_trans hcur.size hgn; replace F := F.below hb; replace B18 := B18.below hb; replace hfr101 := lte hfr101 hb; replace hfr102 := lte hfr102 hb; replace hfr102r := lte hfr102r hb; replace hcur := bthen hcur hb
                refine hK.out _ _ hcur (fun hHeld => ?_)
                clear hK K hHeld
                (try simp only [Act.put, pA, pB, pC, pD, pE, pF])
                refine wpAnyH_ready (rs := [10]) (by kernel_rfl) (by simp) ?_
                refine AllReadyH.cons (o := _) rfl (fun K hK => ?_) AllReadyH.nil
                refine st_store rfl rfl B17 (news := [.bool b102, .slice A102 n102 c102]) (by rfl) infoNum (by simp) (by simp [Value.oneCell']) ?_; intro wn hon Bx; replace B17 := st2 Bx; clear Bx; replace B18 := B18.only hon (Ne.symm hneb17_18); have oo17 : NR.Ok _ _ := (F.out _ (show (⟨b102, A102, n102, c102, _, _, _⟩ : NR) ∈ _ from (by repeat (first | exact m0 | apply m1)))).only hon hne102_17; have F1 := F; clear F; have F := F0.below (hcur.trans (hon.below hg17)); replace F := F.cons ((F1.out _ (show (⟨b102r, A102r, n102r, c102r, _, _, _⟩ : NR) ∈ _ from (by repeat (first | exact m0 | apply m1)))).only hon hne102r_17); clear F1; replace hcur := hcur.trans (hon.below hg17); clear hon
                refine hK.out _ _ hcur (fun hHeld => ?_)
                clear hK K hHeld
                (try simp only [Act.put, pA, pB, pC, pD, pE, pF])
                refine wpAnyH_ready (rs := [11]) (by kernel_rfl) (by simp) ?_
                refine AllReadyH.cons (o := _) rfl (fun K hK => ?_) AllReadyH.nil
                refine st_store rfl rfl B18 (news := [.bool b102r, .slice A102r n102r c102r]) (by rfl) infoNum (by simp) (by simp [Value.oneCell']) ?_; intro wn hon Bx; replace B18 := st2 Bx; clear Bx; replace B17 := B17.only hon hneb17_18; have oo18 : NR.Ok _ _ := (F.out _ (show (⟨b102r, A102r, n102r, c102r, _, _, _⟩ : NR) ∈ _ from (by repeat (first | exact m0 | apply m1)))).only hon hne102r_18; replace oo17 := oo17.only hon hne102_18; have F1 := F; clear F; have F := F0.below (hcur.trans (hon.below hg18)); clear F1; replace hcur := hcur.trans (hon.below hg18); clear hon
                refine hK.out _ _ hcur (fun hHeld => ?_)
                clear hK K hHeld
                (try simp only [Act.put, pA, pB, pC, pD, pE, pF])
                refine wpAnyH_ready (rs := [12]) (by kernel_rfl) (by simp) ?_
                refine AllReadyH.cons (o := _) rfl (fun K hK => ?_) AllReadyH.nil
                go_simp
                refine hK.out _ _ hcur (fun hHeld => ?_)
                clear hK K hHeld
                (try simp only [Act.put, pA, pB, pC, pD, pE, pF])
                refine wpAnyH_done (by kernel_rfl) ?_ _
                refine NoPanic.normal ?_
                obtain ⟨rfl⟩ := hQ7
                have C10 := (B10.below hcur).cells
                have C18 := B18.cells
                have hb13 := hcur
                replace F := (F0.below hcur).cons oo18
                go_wp2_with (first
                  | (go_at_call 33; (with_reducible refine (cmpF F (by repeat (first | exact m0 | apply m1)) (by repeat (first | exact m0 | apply m1)) (by omega) (0) HZ0.out).mono ?_); rintro e wn ⟨vn, rfl, rfl, hbn⟩; replace hcur := bthen hcur hbn; clear hbn)
                  | (go_at_call 19; (with_reducible refine (awake02_any _ (HT.out.below (bthen hbt hcur))).mono ?_); rintro e wn ⟨vn, rfl, rfl, hbn⟩; replace hcur := bthen hcur hbn; clear hbn))
                go_ret
                exact ⟨_, rfl, rfl, bthen hbt hcur⟩
              refine AllReadyH.cons (o := _) rfl (fun K hK => ?_) ?_
              · refine st_alloc 17 rfl infoNum (cs := [.bool false, .slice none 0 0]) rfl ?_; intro g17 wn hb B17 hgn; have hneb17_18 := nbx B18 hgn; have hne101_17 := nal hfr101 hgn; have hg17 := Nat.le_trans hcur.size hgn; replace F := F.below hb; replace B18 := B18.below hb; replace hfr101 := lte hfr101 hb; replace hcur := bthen hcur hb
                refine hK.out _ _ hcur (fun hHeld => ?_)
                clear hK K hHeld
                (try simp only [Act.put, pA, pB, pC, pD, pE, pF])
                refine wpAnyH_ready (rs := [3]) (by kernel_rfl) (by simp) ?_
                refine AllReadyH.cons (o := _) rfl (fun K hK => ?_) AllReadyH.nil
                go_simp; (with_reducible refine (truncF F (by repeat (first | exact m0 | apply m1)) (by repeat (first | exact m0 | apply m1)) HTZ.out (by omega)).mono ?_); rintro e wn ⟨vn, rfl, ⟨qn, rn, rfl, ⟨b102, A102, n102, c102, rfl, o, hf⟩, ⟨b102r, A102r, n102r, c102r, rfl, o2, hf2⟩⟩, hb⟩; replace F := ((F.below hb).cons o).cons o2; have hne102_18 := ner hf B18; have hne102r_18 := ner hf2 B18; have hne102_17 := ner hf B17; have hne102r_17 := ner hf2 B17; have hfr102 := ltf hf; have hfr102r := ltf hf2; clear hf hf2; replace B18 := B18.below hb; replace B17 := B17.below hb; replace hfr101 := lte hfr101 hb; replace hcur := bthen hcur hb; go_wp2_with fail
                refine hK.out _ _ hcur (fun hHeld => ?_)
                clear hK K hHeld
                (try simp only [Act.put, pA, pB, pC, pD, pE, pF])
                refine tk (i := 4) (v := .tuple #[.agg #[.bool b102, .slice A102 n102 c102], .agg #[.bool b102r, .slice A102r n102r c102r], .bool true]) rfl (by kernel_rfl) (by kernel_rfl) (fun W hSw => by (go_simp; (try (with_reducible rfl)))) hcur ?_
                (try simp only [Act.put, pA, pB, pC, pD, pE, pF])
                refine tk (i := 5) (v := .agg #[.bool b102, .slice A102 n102 c102]) rfl (by kernel_rfl) (by kernel_rfl) (fun W hSw => by (go_simp; (try (with_reducible rfl)))) hcur ?_
                (try simp only [Act.put, pA, pB, pC, pD, pE, pF])
                refine tk (i := 6) (v := .agg #[.bool b102r, .slice A102r n102r c102r]) rfl (by kernel_rfl) (by kernel_rfl) (fun W hSw => by (go_simp; (try (with_reducible rfl)))) hcur ?_
                (try simp only [Act.put, pA, pB, pC, pD, pE, pF])
                refine tk (i := 7) (v := .bool true) rfl (by kernel_rfl) (by kernel_rfl) (fun W hSw => by (go_simp; (try (with_reducible rfl)))) hcur ?_
                (try simp only [Act.put, pA, pB, pC, pD, pE, pF])
                refine wpAnyH_ready (rs := [10]) (by kernel_rfl) (by simp) ?_
                refine AllReadyH.cons (o := _) rfl (fun K hK => ?_) AllReadyH.nil
                refine st_store rfl rfl B17 (news := [.bool b102, .slice A102 n102 c102]) (by rfl) infoNum (by simp) (by simp [Value.oneCell']) ?_; intro wn hon Bx; replace B17 := st2 Bx; clear Bx; replace B18 := B18.only hon (Ne.symm hneb17_18); have oo17 : NR.Ok _ _ := (F.out _ (show (⟨b102, A102, n102, c102, _, _, _⟩ : NR) ∈ _ from (by repeat (first | exact m0 | apply m1)))).only hon hne102_17; have F1 := F; clear F; have F := F0.below (hcur.trans (hon.below hg17)); replace F := F.cons ((F1.out _ (show (⟨b102r, A102r, n102r, c102r, _, _, _⟩ : NR) ∈ _ from (by repeat (first | exact m0 | apply m1)))).only hon hne102r_17); clear F1; replace hcur := hcur.trans (hon.below hg17); clear hon
                refine hK.out _ _ hcur (fun hHeld => ?_)
                clear hK K hHeld
                (try simp only [Act.put, pA, pB, pC, pD, pE, pF])
                refine wpAnyH_ready (rs := [11]) (by kernel_rfl) (by simp) ?_
                refine AllReadyH.cons (o := _) rfl (fun K hK => ?_) AllReadyH.nil
                refine st_store rfl rfl B18 (news := [.bool b102r, .slice A102r n102r c102r]) (by rfl) infoNum (by simp) (by simp [Value.oneCell']) ?_; intro wn hon Bx; replace B18 := st2 Bx; clear Bx; replace B17 := B17.only hon hneb17_18; have oo18 : NR.Ok _ _ := (F.out _ (show (⟨b102r, A102r, n102r, c102r, _, _, _⟩ : NR) ∈ _ from (by repeat (first | exact m0 | apply m1)))).only hon hne102r_18; replace oo17 := oo17.only hon hne102_18; have F1 := F; clear F; have F := F0.below (hcur.trans (hon.below hg18)); clear F1; replace hcur := hcur.trans (hon.below hg18); clear hon
                refine hK.out _ _ hcur (fun hHeld => ?_)
                clear hK K hHeld
                (try simp only [Act.put, pA, pB, pC, pD, pE, pF])
                refine wpAnyH_ready (rs := [12]) (by kernel_rfl) (by simp) ?_
                refine AllReadyH.cons (o := _) rfl (fun K hK => ?_) AllReadyH.nil
                go_simp
                refine hK.out _ _ hcur (fun hHeld => ?_)
                clear hK K hHeld
                (try simp only [Act.put, pA, pB, pC, pD, pE, pF])
                refine wpAnyH_done (by kernel_rfl) ?_ _
                refine NoPanic.normal ?_
                obtain ⟨rfl⟩ := hQ7
                have C10 := (B10.below hcur).cells
                have C18 := B18.cells
                have hb13 := hcur
                replace F := (F0.below hcur).cons oo18
                go_wp2_with (first
                  | (go_at_call 33; (with_reducible refine (cmpF F (by repeat (first | exact m0 | apply m1)) (by repeat (first | exact m0 | apply m1)) (by omega) (0) HZ0.out).mono ?_); rintro e wn ⟨vn, rfl, rfl, hbn⟩; replace hcur := bthen hcur hbn; clear hbn)
                  | (go_at_call 19; (with_reducible refine (awake02_any _ (HT.out.below (bthen hbt hcur))).mono ?_); rintro e wn ⟨vn, rfl, rfl, hbn⟩; replace hcur := bthen hcur hbn; clear hbn))
                go_ret
                exact ⟨_, rfl, rfl, bthen hbt hcur⟩
              exact AllReadyH.nil
            exact AllReadyH.nil
          refine AllReadyH.cons (o := _) rfl (fun K hK => ?_) ?_
          · refine st_alloc 17 rfl infoNum (cs := [.bool false, .slice none 0 0]) rfl ?_; intro g17 wn hb B17 hgn; have hg17 := Nat.le_trans hcur.size hgn; replace F := F.below hb; replace hcur := bthen hcur hb
            refine hK.out _ _ hcur (fun hHeld => ?_)
            clear hK K hHeld
            (try simp only [Act.put, pA, pB, pC, pD, pE, pF])
            refine wpAnyH_ready (rs := [2, 9]) (by kernel_rfl) (by simp) ?_
            refine AllReadyH.cons (o := _) rfl (fun K hK => ?_) ?_
            · go_simp; (with_reducible refine (cF F (by repeat (first | exact m0 | apply m1))).mono ?_); rintro e wn ⟨vn, rfl, ⟨b101, A101, n101, c101, rfl, o, hf⟩, hb⟩; replace F := (F.below hb).cons o; have hne101_17 := ner hf B17; have hfr101 := ltf hf; clear hf; replace B17 := B17.below hb; replace hcur := bthen hcur hb; go_wp2_with fail
              refine hK.out _ _ hcur (fun hHeld => ?_)
              clear hK K hHeld
              (try simp only [Act.put, pA, pB, pC, pD, pE, pF])
              refine wpAnyH_ready (rs := [3, 9]) (by kernel_rfl) (by simp) ?_
              refine AllReadyH.cons (o := _) rfl (fun K hK => ?_) ?_
              · go_simp; (with_reducible refine (truncF F (by repeat (first | exact m0 | apply m1)) (by repeat (first | exact m0 | apply m1)) HTZ.out (by omega)).mono ?_); rintro e wn ⟨vn, rfl, ⟨qn, rn, rfl, ⟨b102, A102, n102, c102, rfl, o, hf⟩, ⟨b102r, A102r, n102r, c102r, rfl, o2, hf2⟩⟩, hb⟩; replace F := ((F.below hb).cons o).cons o2; have hne102_17 := ner hf B17; have hne102r_17 := ner hf2 B17; have hfr102 := ltf hf; have hfr102r := ltf hf2; clear hf hf2; replace B17 := B17.below hb; replace hfr101 := lte hfr101 hb; replace hcur := bthen hcur hb; go_wp2_with fail
                refine hK.out _ _ hcur (fun hHeld => ?_)
                clear hK K hHeld
                (try simp only [Act.put, pA, pB, pC, pD, pE, pF])
                refine tk (i := 4) (v := .tuple #[.agg #[.bool b102, .slice A102 n102 c102], .agg #[.bool b102r, .slice A102r n102r c102r], .bool true]) rfl (by kernel_rfl) (by kernel_rfl) (fun W hSw => by (go_simp; (try (with_reducible rfl)))) hcur ?_
                (try simp only [Act.put, pA, pB, pC, pD, pE, pF])
                refine tk (i := 5) (v := .agg #[.bool b102, .slice A102 n102 c102]) rfl (by kernel_rfl) (by kernel_rfl) (fun W hSw => by (go_simp; (try (with_reducible rfl)))) hcur ?_
                (try simp only [Act.put, pA, pB, pC, pD, pE, pF])
                refine tk (i := 6) (v := .agg #[.bool b102r, .slice A102r n102r c102r]) rfl (by kernel_rfl) (by kernel_rfl) (fun W hSw => by (go_simp; (try (with_reducible rfl)))) hcur ?_
                (try simp only [Act.put, pA, pB, pC, pD, pE, pF])
                refine tk (i := 7) (v := .bool true) rfl (by kernel_rfl) (by kernel_rfl) (fun W hSw => by (go_simp; (try (with_reducible rfl)))) hcur ?_
                (try simp only [Act.put, pA, pB, pC, pD, pE, pF])
                refine wpAnyH_ready (rs := [9]) (by kernel_rfl) (by simp) ?_
                refine AllReadyH.cons (o := _) rfl (fun K hK => ?_) AllReadyH.nil
                refine st_alloc 18 rfl infoNum (cs := [.bool false, .slice none 0 0]) rfl ?_; intro g18 wn hb B18 hgn; have hneb18_17 := nbx B17 hgn; have hne101_18 := nal hfr101 hgn; have hne102_18 := nal hfr102 hgn; have hne102r_18 := nal hfr102r hgn; have hg18 := Nat.le_trans hcur.size hgn; replace F := F.below hb; replace B17 := B17.below hb; replace hfr101 := lte hfr101 hb; replace hfr102 := lte hfr102 hb; replace hfr102r := lte hfr102r hb; replace hcur := bthen hcur hb
                refine hK.out _ _ hcur (fun hHeld => ?_)
                clear hK K hHeld
                (try simp only [Act.put, pA, pB, pC, pD, pE, pF])
                refine wpAnyH_ready (rs := [10]) (by kernel_rfl) (by simp) ?_
                refine AllReadyH.cons (o := _) rfl (fun K hK => ?_) AllReadyH.nil
                refine st_store rfl rfl B17 (news := [.bool b102, .slice A102 n102 c102]) (by rfl) infoNum (by simp) (by simp [Value.oneCell']) ?_; intro wn hon Bx; replace B17 := st2 Bx; clear Bx; replace B18 := B18.only hon hneb18_17; have oo17 : NR.Ok _ _ := (F.out _ (show (⟨b102, A102, n102, c102, _, _, _⟩ : NR) ∈ _ from (by repeat (first | exact m0 | apply m1)))).only hon hne102_17; have F1 := F; clear F; have F := F0.below (hcur.trans (hon.below hg17)); replace F := F.cons ((F1.out _ (show (⟨b102r, A102r, n102r, c102r, _, _, _⟩ : NR) ∈ _ from (by repeat (first | exact m0 | apply m1)))).only hon hne102r_17); clear F1; replace hcur := hcur.trans (hon.below hg17); clear hon
                refine hK.out _ _ hcur (fun hHeld => ?_)
                clear hK K hHeld
                (try simp only [Act.put, pA, pB, pC, pD, pE, pF])
                refine wpAnyH_ready (rs := [11]) (by kernel_rfl) (by simp) ?_
                refine AllReadyH.cons (o := _) rfl (fun K hK => ?_) AllReadyH.nil
                refine st_store rfl rfl B18 (news := [.bool b102r, .slice A102r n102r c102r]) (by rfl) infoNum (by simp) (by simp [Value.oneCell']) ?_; intro wn hon Bx; replace B18 := st2 Bx; clear Bx; replace B17 := B17.only hon (Ne.symm hneb18_17); have oo18 : NR.Ok _ _ := (F.out _ (show (⟨b102r, A102r, n102r, c102r, _, _, _⟩ : NR) ∈ _ from (by repeat (first | exact m0 | apply m1)))).only hon hne102r_18; replace oo17 := oo17.only hon hne102_18; have F1 := F; clear F; have F := F0.below (hcur.trans (hon.below hg18)); clear F1; replace hcur := hcur.trans (hon.below hg18); clear hon
                refine hK.out _ _ hcur (fun hHeld => ?_)
                clear hK K hHeld
                (try simp only [Act.put, pA, pB, pC, pD, pE, pF])
                refine wpAnyH_ready (rs := [12]) (by kernel_rfl) (by simp) ?_
                refine AllReadyH.cons (o := _) rfl (fun K hK => ?_) AllReadyH.nil
                go_simp
                refine hK.out _ _ hcur (fun hHeld => ?_)
                clear hK K hHeld
                (try simp only [Act.put, pA, pB, pC, pD, pE, pF])
                refine wpAnyH_done (by kernel_rfl) ?_ _
                refine NoPanic.normal ?_
                obtain ⟨rfl⟩ := hQ7
                have C10 := (B10.below hcur).cells
                have C18 := B18.cells
                have hb13 := hcur
                replace F := (F0.below hcur).cons oo18
                go_wp2_with (first
                  | (go_at_call 33; (with_reducible refine (cmpF F (by repeat (first | exact m0 | apply m1)) (by repeat (first | exact m0 | apply m1)) (by omega) (0) HZ0.out).mono ?_); rintro e wn ⟨vn, rfl, rfl, hbn⟩; replace hcur := bthen hcur hbn; clear hbn)
                  | (go_at_call 19; (with_reducible refine (awake02_any _ (HT.out.below (bthen hbt hcur))).mono ?_); rintro e wn ⟨vn, rfl, rfl, hbn⟩; replace hcur := bthen hcur hbn; clear hbn))
                go_ret
                exact ⟨_, rfl, rfl, bthen hbt hcur⟩
              refine AllReadyH.cons (o := _) rfl (fun K hK => ?_) ?_
              · refine st_alloc 18 rfl infoNum (cs := [.bool false, .slice none 0 0]) rfl ?_; intro g18 wn hb B18 hgn; have hneb18_17 := nbx B17 hgn; have hne101_18 := nal hfr101 hgn; have hg18 := Nat.le_trans hcur.size hgn; replace F := F.below hb; replace B17 := B17.below hb; replace hfr101 := lte hfr101 hb; replace hcur := bthen hcur hb
                refine hK.out _ _ hcur (fun hHeld => ?_)
                clear hK K hHeld
                (try simp only [Act.put, pA, pB, pC, pD, pE, pF])
                refine wpAnyH_ready (rs := [3]) (by kernel_rfl) (by simp) ?_
                refine AllReadyH.cons (o := _) rfl (fun K hK => ?_) AllReadyH.nil
                go_simp; (with_reducible refine (truncF F (by repeat (first | exact m0 | apply m1)) (by repeat (first | exact m0 | apply m1)) HTZ.out (by omega)).mono ?_); rintro e wn ⟨vn, rfl, ⟨qn, rn, rfl, ⟨b102, A102, n102, c102, rfl, o, hf⟩, ⟨b102r, A102r, n102r, c102r, rfl, o2, hf2⟩⟩, hb⟩; replace F := ((F.below hb).cons o).cons o2; have hne102_17 := ner hf B17; have hne102r_17 := ner hf2 B17; have hne102_18 := ner hf B18; have hne102r_18 := ner hf2 B18; have hfr102 := ltf hf; have hfr102r := ltf hf2; clear hf hf2; replace B17 := B17.below hb; replace B18 := B18.below hb; replace hfr101 := lte hfr101 hb; replace hcur := bthen hcur hb; go_wp2_with fail
                refine hK.out _ _ hcur (fun hHeld => ?_)
                clear hK K hHeld
                (try simp only [Act.put, pA, pB, pC, pD, pE, pF])
                refine tk (i := 4) (v := .tuple #[.agg #[.bool b102, .slice A102 n102 c102], .agg #[.bool b102r, .slice A102r n102r c102r], .bool true]) rfl (by kernel_rfl) (by kernel_rfl) (fun W hSw => by (go_simp; (try (with_reducible rfl)))) hcur ?_
                (try simp only [Act.put, pA, pB, pC, pD, pE, pF])
                refine tk (i := 5) (v := .agg #[.bool b102, .slice A102 n102 c102]) rfl (by kernel_rfl) (by kernel_rfl) (fun W hSw => by (go_simp; (try (with_reducible rfl)))) hcur ?_
                (try simp only [Act.put, pA, pB, pC, pD, pE, pF])
                refine tk (i := 6) (v := .agg #[.bool b102r, .slice A102r n102r c102r]) rfl (by kernel_rfl) (by kernel_rfl) (fun W hSw => by (go_simp; (try (with_reducible rfl)))) hcur ?_
                (try simp only [Act.put, pA, pB, pC, pD, pE, pF])
                refine tk (i := 7) (v := .bool true) rfl (by kernel_rfl) (by kernel_rfl) (fun W hSw => by (go_simp; (try (with_reducible rfl)))) hcur ?_
                (try simp only [Act.put, pA, pB, pC, pD, pE, pF])
                refine wpAnyH_ready (rs := [10]) (by kernel_rfl) (by simp) ?_
                refine AllReadyH.cons (o := _) rfl (fun K hK => ?_) AllReadyH.nil
                refine st_store rfl rfl B17 (news := [.bool b102, .slice A102 n102 c102]) (by rfl) infoNum (by simp) (by simp [Value.oneCell']) ?_; intro wn hon Bx; replace B17 := st2 Bx; clear Bx; replace B18 := B18.only hon hneb18_17; have oo17 : NR.Ok _ _ := (F.out _ (show (⟨b102, A102, n102, c102, _, _, _⟩ : NR) ∈ _ from (by repeat (first | exact m0 | apply m1)))).only hon hne102_17; have F1 := F; clear F; have F := F0.below (hcur.trans (hon.below hg17)); replace F := F.cons ((F1.out _ (show (⟨b102r, A102r, n102r, c102r, _, _, _⟩ : NR) ∈ _ from (by repeat (first | exact m0 | apply m1)))).only hon hne102r_17); clear F1; replace hcur := hcur.trans (hon.below hg17); clear hon
                refine hK.out _ _ hcur (fun hHeld => ?_)
                clear hK K hHeld
                (try simp only [Act.put, pA, pB, pC, pD, pE, pF])
                refine wpAnyH_ready (rs := [11]) (by kernel_rfl) (by simp) ?_
                refine AllReadyH.cons (o := _) rfl (fun K hK => ?_) AllReadyH.nil
                refine st_store rfl rfl B18 (news := [.bool b102r, .slice A102r n102r c102r]) (by rfl) infoNum (by simp) (by simp [Value.oneCell']) ?_; intro wn hon Bx; replace B18 := st2 Bx; clear Bx; replace B17 := B17.only hon (Ne.symm hneb18_17); have oo18 : NR.Ok _ _ := (F.out _ (show (⟨b102r, A102r, n102r, c102r, _, _, _⟩ : NR) ∈ _ from (by repeat (first | exact m0 | apply m1)))).only hon hne102r_18; replace oo17 := oo17.only hon hne102_18; have F1 := F; clear F; have F := F0.below (hcur.trans (hon.below hg18)); clear F1; replace hcur := hcur.trans (hon.below hg18); clear hon
                refine hK.out _ _ hcur (fun hHeld => ?_)
                clear hK K hHeld
                (try simp only [Act.put, pA, pB, pC, pD, pE, pF])
                refine wpAnyH_ready (rs := [12]) (by kernel_rfl) (by simp) ?_
                refine AllReadyH.cons (o := _) rfl (fun K hK => ?_) AllReadyH.nil
                go_simp
                refine hK.out _ _ hcur (fun hHeld => ?_)
                clear hK K hHeld
                (try simp only [Act.put, pA, pB, pC, pD, pE, pF])
                refine wpAnyH_done (by kernel_rfl) ?_ _
                refine NoPanic.normal ?_
                obtain ⟨rfl⟩ := hQ7
                have C10 := (B10.below hcur).cells
                have C18 := B18.cells
                have hb13 := hcur
                replace F := (F0.below hcur).cons oo18
                go_wp2_with (first
                  | (go_at_call 33; (with_reducible refine (cmpF F (by repeat (first | exact m0 | apply m1)) (by repeat (first | exact m0 | apply m1)) (by omega) (0) HZ0.out).mono ?_); rintro e wn ⟨vn, rfl, rfl, hbn⟩; replace hcur := bthen hcur hbn; clear hbn)
                  | (go_at_call 19; (with_reducible refine (awake02_any _ (HT.out.below (bthen hbt hcur))).mono ?_); rintro e wn ⟨vn, rfl, rfl, hbn⟩; replace hcur := bthen hcur hbn; clear hbn))
                go_ret
                exact ⟨_, rfl, rfl, bthen hbt hcur⟩
              exact AllReadyH.nil
            refine AllReadyH.cons (o := _) rfl (fun K hK => ?_) ?_
            · refine st_alloc 18 rfl infoNum (cs := [.bool false, .slice none 0 0]) rfl ?_; intro g18 wn hb B18 hgn; have hneb18_17 := nbx B17 hgn; have hg18 := Nat.le_trans hcur.size hgn; replace F := F.below hb; replace B17 := B17.below hb; replace hcur := bthen hcur hb
              refine hK.out _ _ hcur (fun hHeld => ?_)
              clear hK K hHeld
              (try simp only [Act.put, pA, pB, pC, pD, pE, pF])
              refine wpAnyH_ready (rs := [2]) (by kernel_rfl) (by simp) ?_
              refine AllReadyH.cons (o := _) rfl (fun K hK => ?_) AllReadyH.nil
              go_simp; (with_reducible refine (cF F (by repeat (first | exact m0 | apply m1))).mono ?_); rintro e wn ⟨vn, rfl, ⟨b101, A101, n101, c101, rfl, o, hf⟩, hb⟩; replace F := (F.below hb).cons o; have hne101_17 := ner hf B17; have hne101_18 := ner hf B18; have hfr101 := ltf hf; clear hf; replace B17 := B17.below hb; replace B18 := B18.below hb; replace hcur := bthen hcur hb; go_wp2_with fail
              refine hK.out _ _ hcur (fun hHeld => ?_)
              clear hK K hHeld
              (try simp only [Act.put, pA, pB, pC, pD, pE, pF])
              refine wpAnyH_ready (rs := [3]) (by kernel_rfl) (by simp) ?_
              refine AllReadyH.cons (o := _) rfl (fun K hK => ?_) AllReadyH.nil
              go_simp; (with_reducible refine (truncF F (by repeat (first | exact m0 | apply m1)) (by repeat (first | exact m0 | apply m1)) HTZ.out (by omega)).mono ?_); rintro e wn ⟨vn, rfl, ⟨qn, rn, rfl, ⟨b102, A102, n102, c102, rfl, o, hf⟩, ⟨b102r, A102r, n102r, c102r, rfl, o2, hf2⟩⟩, hb⟩; replace F := ((F.below hb).cons o).cons o2; have hne102_17 := ner hf B17; have hne102r_17 := ner hf2 B17; have hne102_18 := ner hf B18; have hne102r_18 := ner hf2 B18; have hfr102 := ltf hf; have hfr102r := ltf hf2; clear hf hf2; replace B17 := B17.below hb; replace B18 := B18.below hb; replace hfr101 := lte hfr101 hb; replace hcur := bthen hcur hb; go_wp2_with fail
              refine hK.out _ _ hcur (fun hHeld => ?_)
              clear hK K hHeld
              (try simp only [Act.put, pA, pB, pC, pD, pE, pF])
              refine tk (i := 4) (v := .tuple #[.agg #[.bool b102, .slice A102 n102 c102], .agg #[.bool b102r, .slice A102r n102r c102r], .bool true]) rfl (by kernel_rfl) (by kernel_rfl) (fun W hSw => by (go_simp; (try (with_reducible rfl)))) hcur ?_
              (try simp only [Act.put, pA, pB, pC, pD, pE, pF])
              refine tk (i := 5) (v := .agg #[.bool b102, .slice A102 n102 c102]) rfl (by kernel_rfl) (by kernel_rfl) (fun W hSw => by (go_simp; (try (with_reducible rfl)))) hcur ?_
              (try simp only [Act.put, pA, pB, pC, pD, pE, pF])
              refine tk (i := 6) (v := .agg #[.bool b102r, .slice A102r n102r c102r]) rfl (by kernel_rfl) (by kernel_rfl) (fun W hSw => by (go_simp; (try (with_reducible rfl)))) hcur ?_
              (try simp only [Act.put, pA, pB, pC, pD, pE, pF])
              refine tk (i := 7) (v := .bool true) rfl (by kernel_rfl) (by kernel_rfl) (fun W hSw => by (go_simp; (try (with_reducible rfl)))) hcur ?_
              (try simp only [Act.put, pA, pB, pC, pD, pE, pF])
              refine wpAnyH_ready (rs := [10]) (by kernel_rfl) (by simp) ?_
              refine AllReadyH.cons (o := _) rfl (fun K hK => ?_) AllReadyH.nil
              refine st_store rfl rfl B17 (news := [.bool b102, .slice A102 n102 c102]) (by rfl) infoNum (by simp) (by simp [Value.oneCell']) ?_; intro wn hon Bx; replace B17 := st2 Bx; clear Bx; replace B18 := B18.only hon hneb18_17; have oo17 : NR.Ok _ _ := (F.out _ (show (⟨b102, A102, n102, c102, _, _, _⟩ : NR) ∈ _ from (by repeat (first | exact m0 | apply m1)))).only hon hne102_17; have F1 := F; clear F; have F := F0.below (hcur.trans (hon.below hg17)); replace F := F.cons ((F1.out _ (show (⟨b102r, A102r, n102r, c102r, _, _, _⟩ : NR) ∈ _ from (by repeat (first | exact m0 | apply m1)))).only hon hne102r_17); clear F1; replace hcur := hcur.trans (hon.below hg17); clear hon
              refine hK.out _ _ hcur (fun hHeld => ?_)
              clear hK K hHeld
              (try simp only [Act.put, pA, pB, pC, pD, pE, pF])
              refine wpAnyH_ready (rs := [11]) (by kernel_rfl) (by simp) ?_
              refine AllReadyH.cons (o := _) rfl (fun K hK => ?_) AllReadyH.nil
              refine st_store rfl rfl B18 (news := [.bool b102r, .slice A102r n102r c102r]) (by rfl) infoNum (by simp) (by simp [Value.oneCell']) ?_; intro wn hon Bx; replace B18 := st2 Bx; clear Bx; replace B17 := B17.only hon (Ne.symm hneb18_17); have oo18 : NR.Ok _ _ := (F.out _ (show (⟨b102r, A102r, n102r, c102r, _, _, _⟩ : NR) ∈ _ from (by repeat (first | exact m0 | apply m1)))).only hon hne102r_18; replace oo17 := oo17.only hon hne102_18; have F1 := F; clear F; have F := F0.below (hcur.trans (hon.below hg18)); clear F1; replace hcur := hcur.trans (hon.below hg18); clear hon
              refine hK.out _ _ hcur (fun hHeld => ?_)
              clear hK K hHeld
              (try simp only [Act.put, pA, pB, pC, pD, pE, pF])
              refine wpAnyH_ready (rs := [12]) (by kernel_rfl) (by simp) ?_
              refine AllReadyH.cons (o := _) rfl (fun K hK => ?_) AllReadyH.nil
              go_simp
              refine hK.out _ _ hcur (fun hHeld => ?_)
              clear hK K hHeld
              (try simp only [Act.put, pA, pB, pC, pD, pE, pF])
              refine wpAnyH_done (by kernel_rfl) ?_ _
              refine NoPanic.normal ?_
              obtain ⟨rfl⟩ := hQ7
              have C10 := (B10.below hcur).cells
              have C18 := B18.cells
              have hb13 := hcur
              replace F := (F0.below hcur).cons oo18
              go_wp2_with (first
                | (go_at_call 33; (with_reducible refine (cmpF F (by repeat (first | exact m0 | apply m1)) (by repeat (first | exact m0 | apply m1)) (by omega) (0) HZ0.out).mono ?_); rintro e wn ⟨vn, rfl, rfl, hbn⟩; replace hcur := bthen hcur hbn; clear hbn)
                | (go_at_call 19; (with_reducible refine (awake02_any _ (HT.out.below (bthen hbt hcur))).mono ?_); rintro e wn ⟨vn, rfl, rfl, hbn⟩; replace hcur := bthen hcur hbn; clear hbn))
              go_ret
              exact ⟨_, rfl, rfl, bthen hbt hcur⟩
            exact AllReadyH.nil
          refine AllReadyH.cons (o := _) rfl (fun K hK => ?_) ?_
          · refine st_alloc 18 rfl infoNum (cs := [.bool false, .slice none 0 0]) rfl ?_; intro g18 wn hb B18 hgn; have hg18 := Nat.le_trans hcur.size hgn; replace F := F.below hb; replace hcur := bthen hcur hb
            refine hK.out _ _ hcur (fun hHeld => ?_)
            clear hK K hHeld
            (try simp only [Act.put, pA, pB, pC, pD, pE, pF])
            refine wpAnyH_ready (rs := [2, 8]) (by kernel_rfl) (by simp) ?_
            refine AllReadyH.cons (o := _) rfl (fun K hK => ?_) ?_
            · go_simp; (with_reducible refine (cF F (by repeat (first | exact m0 | apply m1))).mono ?_); rintro e wn ⟨vn, rfl, ⟨b101, A101, n101, c101, rfl, o, hf⟩, hb⟩; replace F := (F.below hb).cons o; have hne101_18 := ner hf B18; have hfr101 := ltf hf; clear hf; replace B18 := B18.below hb; replace hcur := bthen hcur hb; go_wp2_with fail
              refine hK.out _ _ hcur (fun hHeld => ?_)
              clear hK K hHeld
              (try simp only [Act.put, pA, pB, pC, pD, pE, pF])
              refine wpAnyH_ready (rs := [3, 8]) (by kernel_rfl) (by simp) ?_
              refine AllReadyH.cons (o := _) rfl (fun K hK => ?_) ?_
              · go_simp; (with_reducible refine (truncF F (by repeat (first | exact m0 | apply m1)) (by repeat (first | exact m0 | apply m1)) HTZ.out (by omega)).mono ?_); rintro e wn ⟨vn, rfl, ⟨qn, rn, rfl, ⟨b102, A102, n102, c102, rfl, o, hf⟩, ⟨b102r, A102r, n102r, c102r, rfl, o2, hf2⟩⟩, hb⟩; replace F := ((F.below hb).cons o).cons o2; have hne102_18 := ner hf B18; have hne102r_18 := ner hf2 B18; have hfr102 := ltf hf; have hfr102r := ltf hf2; clear hf hf2; replace B18 := B18.below hb; replace hfr101 := lte hfr101 hb; replace hcur := bthen hcur hb; go_wp2_with fail
                refine hK.out _ _ hcur (fun hHeld => ?_)
                clear hK K hHeld
                (try simp only [Act.put, pA, pB, pC, pD, pE, pF])
                refine tk (i := 4) (v := .tuple #[.agg #[.bool b102, .slice A102 n102 c102], .agg #[.bool b102r, .slice A102r n102r c102r], .bool true]) rfl (by kernel_rfl) (by kernel_rfl) (fun W hSw => by (go_simp; (try (with_reducible rfl)))) hcur ?_
                (try simp only [Act.put, pA, pB, pC, pD, pE, pF])
                refine tk (i := 5) (v := .agg #[.bool b102, .slice A102 n102 c102]) rfl (by kernel_rfl) (by kernel_rfl) (fun W hSw => by (go_simp; (try (with_reducible rfl)))) hcur ?_
                (try simp only [Act.put, pA, pB, pC, pD, pE, pF])
                refine tk (i := 6) (v := .agg #[.bool b102r, .slice A102r n102r c102r]) rfl (by kernel_rfl) (by kernel_rfl) (fun W hSw => by (go_simp; (try (with_reducible rfl)))) hcur ?_
                (try simp only [Act.put, pA, pB, pC, pD, pE, pF])
                refine tk (i := 7) (v := .bool true) rfl (by kernel_rfl) (by kernel_rfl) (fun W hSw => by (go_simp; (try (with_reducible rfl)))) hcur ?_
                (try simp only [Act.put, pA, pB, pC, pD, pE, pF])
                refine wpAnyH_ready (rs := [8]) (by kernel_rfl) (by simp) ?_
                refine AllReadyH.cons (o := _) rfl (fun K hK => ?_) AllReadyH.nil
                refine st_alloc 17 rfl infoNum (cs := [.bool false, .slice none 0 0]) rfl ?_; intro g17 wn hb B17 hgn; have hneb17_18 := nbx B18 hgn; have hne101_17 := nal hfr101 hgn; have hne102_17 := nal hfr102 hgn; have hne102r_17 := nal hfr102r hgn; have hg17 := Nat.le_trans hcur.size hgn; replace F := F.below hb; replace B18 := B18.below hb; replace hfr101 := lte hfr101 hb; replace hfr102 := lte hfr102 hb; replace hfr102r := lte hfr102r hb; replace hcur := bthen hcur hb
                refine hK.out _ _ hcur (fun hHeld => ?_)
                clear hK K hHeld
                (try simp only [Act.put, pA, pB, pC, pD, pE, pF])
                refine wpAnyH_ready (rs := [10]) (by kernel_rfl) (by simp) ?_
                refine AllReadyH.cons (o := _) rfl (fun K hK => ?_) AllReadyH.nil
                refine st_store rfl rfl B17 (news := [.bool b102, .slice A102 n102 c102]) (by rfl) infoNum (by simp) (by simp [Value.oneCell']) ?_; intro wn hon Bx; replace B17 := st2 Bx; clear Bx; replace B18 := B18.only hon (Ne.symm hneb17_18); have oo17 : NR.Ok _ _ := (F.out _ (show (⟨b102, A102, n102, c102, _, _, _⟩ : NR) ∈ _ from (by repeat (first | exact m0 | apply m1)))).only hon hne102_17; have F1 := F; clear F; have F := F0.below (hcur.trans (hon.below hg17)); replace F := F.cons ((F1.out _ (show (⟨b102r, A102r, n102r, c102r, _, _, _⟩ : NR) ∈ _ from (by repeat (first | exact m0 | apply m1)))).only hon hne102r_17); clear F1; replace hcur := hcur.trans (hon.below hg17); clear hon
                refine hK.out _ _ hcur (fun hHeld => ?_)
                clear hK K hHeld
                (try simp only [Act.put, pA, pB, pC, pD, pE, pF])
                refine wpAnyH_ready (rs := [11]) (by kernel_rfl) (by simp) ?_
                refine AllReadyH.cons (o := _) rfl (fun K hK => ?_) AllReadyH.nil
                refine st_store rfl rfl B18 (news := [.bool b102r, .slice A102r n102r c102r]) (by rfl) infoNum (by simp) (by simp [Value.oneCell']) ?_; intro wn hon Bx; replace B18 := st2 Bx; clear Bx; replace B17 := B17.only hon hneb17_18; have oo18 : NR.Ok _ _ := (F.out _ (show (⟨b102r, A102r, n102r, c102r, _, _, _⟩ : NR) ∈ _ from (by repeat (first | exact m0 | apply m1)))).only hon hne102r_18; replace oo17 := oo17.only hon hne102_18; have F1 := F; clear F; have F := F0.below (hcur.trans (hon.below hg18)); clear F1; replace hcur := hcur.trans (hon.below hg18); clear hon
                refine hK.out _ _ hcur (fun hHeld => ?_)
                clear hK K hHeld
                (try simp only [Act.put, pA, pB, pC, pD, pE, pF])
                refine wpAnyH_ready (rs := [12]) (by kernel_rfl) (by simp) ?_
                refine AllReadyH.cons (o := _) rfl (fun K hK => ?_) AllReadyH.nil
                go_simp
                refine hK.out _ _ hcur (fun hHeld => ?_)
                clear hK K hHeld
                (try simp only [Act.put, pA, pB, pC, pD, pE, pF])
                refine wpAnyH_done (by kernel_rfl) ?_ _
                refine NoPanic.normal ?_
                obtain ⟨rfl⟩ := hQ7
                have C10 := (B10.below hcur).cells
                have C18 := B18.cells
                have hb13 := hcur
                replace F := (F0.below hcur).cons oo18
                go_wp2_with (first
                  | (go_at_call 33; (with_reducible refine (cmpF F (by repeat (first | exact m0 | apply m1)) (by repeat (first | exact m0 | apply m1)) (by omega) (0) HZ0.out).mono ?_); rintro e wn ⟨vn, rfl, rfl, hbn⟩; replace hcur := bthen hcur hbn; clear hbn)
                  | (go_at_call 19; (with_reducible refine (awake02_any _ (HT.out.below (bthen hbt hcur))).mono ?_); rintro e wn ⟨vn, rfl, rfl, hbn⟩; replace hcur := bthen hcur hbn; clear hbn))
                go_ret
                exact ⟨_, rfl, rfl, bthen hbt hcur⟩
              refine AllReadyH.cons (o := _) rfl (fun K hK => ?_) ?_
              · refine st_alloc 17 rfl infoNum (cs := [.bool false, .slice none 0 0]) rfl ?_; intro g17 wn hb B17 hgn; have hneb17_18 := nbx B18 hgn; have hne101_17 := nal hfr101 hgn; have hg17 := Nat.le_trans hcur.size hgn; replace F := F.below hb; replace B18 := B18.below hb; replace hfr101 := lte hfr101 hb; replace hcur := bthen hcur hb
                refine hK.out _ _ hcur (fun hHeld => ?_)
                clear hK K hHeld
                (try simp only [Act.put, pA, pB, pC, pD, pE, pF])
                refine wpAnyH_ready (rs := [3]) (by kernel_rfl) (by simp) ?_
                refine AllReadyH.cons (o := _) rfl (fun K hK => ?_) AllReadyH.nil
                go_simp; (with_reducible refine (truncF F (by repeat (first | exact m0 | apply m1)) (by repeat (first | exact m0 | apply m1)) HTZ.out (by omega)).mono ?_); rintro e wn ⟨vn, rfl, ⟨qn, rn, rfl, ⟨b102, A102, n102, c102, rfl, o, hf⟩, ⟨b102r, A102r, n102r, c102r, rfl, o2, hf2⟩⟩, hb⟩; replace F := ((F.below hb).cons o).cons o2; have hne102_18 := ner hf B18; have hne102r_18 := ner hf2 B18; have hne102_17 := ner hf B17; have hne102r_17 := ner hf2 B17; have hfr102 := ltf hf; have hfr102r := ltf hf2; clear hf hf2; replace B18 := B18.below hb; replace B17 := B17.below hb; replace hfr101 := lte hfr101 hb; replace hcur := bthen hcur hb; go_wp2_with fail
                refine hK.out _ _ hcur (fun hHeld => ?_)
                clear hK K hHeld
                (try simp only [Act.put, pA, pB, pC, pD, pE, pF])
                refine tk (i := 4) (v := .tuple #[.agg #[.bool b102, .slice A102 n102 c102], .agg #[.bool b102r, .slice A102r n102r c102r], .bool true]) rfl (by kernel_rfl) (by kernel_rfl) (fun W hSw => by (go_simp; (try (with_reducible rfl)))) hcur ?_
                (try simp only [Act.put, pA, pB, pC, pD, pE, pF])
                refine tk (i := 5) (v := .agg #[.bool b102, .slice A102 n102 c102]) rfl (by kernel_rfl) (by kernel_rfl) (fun W hSw => by (go_simp; (try (with_reducible rfl)))) hcur ?_
                (try simp only [Act.put, pA, pB, pC, pD, pE, pF])
                refine tk (i := 6) (v := .agg #[.bool b102r, .slice A102r n102r c102r]) rfl (by kernel_rfl) (by kernel_rfl) (fun W hSw => by (go_simp; (try (with_reducible rfl)))) hcur ?_
                (try simp only [Act.put, pA, pB, pC, pD, pE, pF])
                refine tk (i := 7) (v := .bool true) rfl (by kernel_rfl) (by kernel_rfl) (fun W hSw => by (go_simp; (try (with_reducible rfl)))) hcur ?_
                (try simp only [Act.put, pA, pB, pC, pD, pE, pF])
                refine wpAnyH_ready (rs := [10]) (by kernel_rfl) (by simp) ?_
                refine AllReadyH.cons (o := _) rfl (fun K hK => ?_) AllReadyH.nil
                refine st_store rfl rfl B17 (news := [.bool b102, .slice A102 n102 c102]) (by rfl) infoNum (by simp) (by simp [Value.oneCell']) ?_; intro wn hon Bx; replace B17 := st2 Bx; clear Bx; replace B18 := B18.only hon (Ne.symm hneb17_18); have oo17 : NR.Ok _ _ := (F.out _ (show (⟨b102, A102, n102, c102, _, _, _⟩ : NR) ∈ _ from (by repeat (first | exact m0 | apply m1)))).only hon hne102_17; have F1 := F; clear F; have F := F0.below (hcur.trans (hon.below hg17)); replace F := F.cons ((F1.out _ (show (⟨b102r, A102r, n102r, c102r, _, _, _⟩ : NR) ∈ _ from (by repeat (first | exact m0 | apply m1)))).only hon hne102r_17); clear F1; replace hcur := hcur.trans (hon.below hg17); clear hon
                refine hK.out _ _ hcur (fun hHeld => ?_)
                clear hK K hHeld
                (try simp only [Act.put, pA, pB, pC, pD, pE, pF])
                refine wpAnyH_ready (rs := [11]) (by kernel_rfl) (by simp) ?_
                refine AllReadyH.cons (o := _) rfl (fun K hK => ?_) AllReadyH.nil
                refine st_store rfl rfl B18 (news := [.bool b102r, .slice A102r n102r c102r]) (by rfl) infoNum (by simp) (by simp [Value.oneCell']) ?_; intro wn hon Bx; replace B18 := st2 Bx; clear Bx; replace B17 := B17.only hon hneb17_18; have oo18 : NR.Ok _ _ := (F.out _ (show (⟨b102r, A102r, n102r, c102r, _, _, _⟩ : NR) ∈ _ from (by repeat (first | exact m0 | apply m1)))).only hon hne102r_18; replace oo17 := oo17.only hon hne102_18; have F1 := F; clear F; have F := F0.below (hcur.trans (hon.below hg18)); clear F1; replace hcur := hcur.trans (hon.below hg18); clear hon
                refine hK.out _ _ hcur (fun hHeld => ?_)
                clear hK K hHeld
                (try simp only [Act.put, pA, pB, pC, pD, pE, pF])
                refine wpAnyH_ready (rs := [12]) (by kernel_rfl) (by simp) ?_
                refine AllReadyH.cons (o := _) rfl (fun K hK => ?_) AllReadyH.nil
                go_simp
                refine hK.out _ _ hcur (fun hHeld => ?_)
                clear hK K hHeld
                (try simp only [Act.put, pA, pB, pC, pD, pE, pF])
                refine wpAnyH_done (by kernel_rfl) ?_ _
                refine NoPanic.normal ?_
                obtain ⟨rfl⟩ := hQ7
                have C10 := (B10.below hcur).cells
                have C18 := B18.cells
                have hb13 := hcur
                replace F := (F0.below hcur).cons oo18
                go_wp2_with (first
                  | (go_at_call 33; (with_reducible refine (cmpF F (by repeat (first | exact m0 | apply m1)) (by repeat (first | exact m0 | apply m1)) (by omega) (0) HZ0.out).mono ?_); rintro e wn ⟨vn, rfl, rfl, hbn⟩; replace hcur := bthen hcur hbn; clear hbn)
                  | (go_at_call 19; (with_reducible refine (awake02_any _ (HT.out.below (bthen hbt hcur))).mono ?_); rintro e wn ⟨vn, rfl, rfl, hbn⟩; replace hcur := bthen hcur hbn; clear hbn))
                go_ret
                exact ⟨_, rfl, rfl, bthen hbt hcur⟩
              exact AllReadyH.nil
            refine AllReadyH.cons (o := _) rfl (fun K hK => ?_) ?_
            · refine st_alloc 17 rfl infoNum (cs := [.bool false, .slice none 0 0]) rfl ?_; intro g17 wn hb B17 hgn; have hneb17_18 := nbx B18 hgn; have hg17 := Nat.le_trans hcur.size hgn; replace F := F.below hb; replace B18 := B18.below hb; replace hcur := bthen hcur hb
              refine hK.out _ _ hcur (fun hHeld => ?_)
              clear hK K hHeld
              (try simp only [Act.put, pA, pB, pC, pD, pE, pF])
              refine wpAnyH_ready (rs := [2]) (by kernel_rfl) (by simp) ?_
              refine AllReadyH.cons (o := _) rfl (fun K hK => ?_) AllReadyH.nil
              go_simp; (with_reducible refine (cF F (by repeat (first | exact m0 | apply m1))).mono ?_); rintro e wn ⟨vn, rfl, ⟨b101, A101, n101, c101, rfl, o, hf⟩, hb⟩; replace F := (F.below hb).cons o; have hne101_18 := ner hf B18; have hne101_17 := ner hf B17; have hfr101 := ltf hf; clear hf; replace B18 := B18.below hb; replace B17 := B17.below hb; replace hcur := bthen hcur hb; go_wp2_with fail
              refine hK.out _ _ hcur (fun hHeld => ?_)
              clear hK K hHeld
              (try simp only [Act.put, pA, pB, pC, pD, pE, pF])
              refine wpAnyH_ready (rs := [3]) (by kernel_rfl) (by simp) ?_
              refine AllReadyH.cons (o := _) rfl (fun K hK => ?_) AllReadyH.nil
              go_simp; (with_reducible refine (truncF F (by repeat (first | exact m0 | apply m1)) (by repeat (first | exact m0 | apply m1)) HTZ.out (by omega)).mono ?_); rintro e wn ⟨vn, rfl, ⟨qn, rn, rfl, ⟨b102, A102, n102, c102, rfl, o, hf⟩, ⟨b102r, A102r, n102r, c102r, rfl, o2, hf2⟩⟩, hb⟩; replace F := ((F.below hb).cons o).cons o2; have hne102_18 := ner hf B18; have hne102r_18 := ner hf2 B18; have hne102_17 := ner hf B17; have hne102r_17 := ner hf2 B17; have hfr102 := ltf hf; have hfr102r := ltf hf2; clear hf hf2; replace B18 := B18.below hb; replace B17 := B17.below hb; replace hfr101 := lte hfr101 hb; replace hcur := bthen hcur hb; go_wp2_with fail
              refine hK.out _ _ hcur (fun hHeld => ?_)
              clear hK K hHeld
              (try simp only [Act.put, pA, pB, pC, pD, pE, pF])
              refine tk (i := 4) (v := .tuple #[.agg #[.bool b102, .slice A102 n102 c102], .agg #[.bool b102r, .slice A102r n102r c102r], .bool true]) rfl (by kernel_rfl) (by kernel_rfl) (fun W hSw => by (go_simp; (try (with_reducible rfl)))) hcur ?_
              (try simp only [Act.put, pA, pB, pC, pD, pE, pF])
              refine tk (i := 5) (v := .agg #[.bool b102, .slice A102 n102 c102]) rfl (by kernel_rfl) (by kernel_rfl) (fun W hSw => by (go_simp; (try (with_reducible rfl)))) hcur ?_
              (try simp only [Act.put, pA, pB, pC, pD, pE, pF])
              refine tk (i := 6) (v := .agg #[.bool b102r, .slice A102r n102r c102r]) rfl (by kernel_rfl) (by kernel_rfl) (fun W hSw => by (go_simp; (try (with_reducible rfl)))) hcur ?_
              (try simp only [Act.put, pA, pB, pC, pD, pE, pF])
              refine tk (i := 7) (v := .bool true) rfl (by kernel_rfl) (by kernel_rfl) (fun W hSw => by (go_simp; (try (with_reducible rfl)))) hcur ?_
              (try simp only [Act.put, pA, pB, pC, pD, pE, pF])
              refine wpAnyH_ready (rs := [10]) (by kernel_rfl) (by simp) ?_
              refine AllReadyH.cons (o := _) rfl (fun K hK => ?_) AllReadyH.nil
              refine st_store rfl rfl B17 (news := [.bool b102, .slice A102 n102 c102]) (by rfl) infoNum (by simp) (by simp [Value.oneCell']) ?_; intro wn hon Bx; replace B17 := st2 Bx; clear Bx; replace B18 := B18.only hon (Ne.symm hneb17_18); have oo17 : NR.Ok _ _ := (F.out _ (show (⟨b102, A102, n102, c102, _, _, _⟩ : NR) ∈ _ from (by repeat (first | exact m0 | apply m1)))).only hon hne102_17; have F1 := F; clear F; have F := F0.below (hcur.trans (hon.below hg17)); replace F := F.cons ((F1.out _ (show (⟨b102r, A102r, n102r, c102r, _, _, _⟩ : NR) ∈ _ from (by repeat (first | exact m0 | apply m1)))).only hon hne102r_17); clear F1; replace hcur := hcur.trans (hon.below hg17); clear hon
              refine hK.out _ _ hcur (fun hHeld => ?_)
              clear hK K hHeld
              (try simp only [Act.put, pA, pB, pC, pD, pE, pF])
              refine wpAnyH_ready (rs := [11]) (by kernel_rfl) (by simp) ?_
              refine AllReadyH.cons (o := _) rfl (fun K hK => ?_) AllReadyH.nil
              refine st_store rfl rfl B18 (news := [.bool b102r, .slice A102r n102r c102r]) (by rfl) infoNum (by simp) (by simp [Value.oneCell']) ?_; intro wn hon Bx; replace B18 := st2 Bx; clear Bx; replace B17 := B17.only hon hneb17_18; have oo18 : NR.Ok _ _ := (F.out _ (show (⟨b102r, A102r, n102r, c102r, _, _, _⟩ : NR) ∈ _ from (by repeat (first | exact m0 | apply m1)))).only hon hne102r_18; replace oo17 := oo17.only hon hne102_18; have F1 := F; clear F; have F := F0.below (hcur.trans (hon.below hg18)); clear F1; replace hcur := hcur.trans (hon.below hg18); clear hon
              refine hK.out _ _ hcur (fun hHeld => ?_)
              clear hK K hHeld
              (try simp only [Act.put, pA, pB, pC, pD, pE, pF])
              refine wpAnyH_ready (rs := [12]) (by kernel_rfl) (by simp) ?_
              refine AllReadyH.cons (o := _) rfl (fun K hK => ?_) AllReadyH.nil
              go_simp
              refine hK.out _ _ hcur (fun hHeld => ?_)
              clear hK K hHeld
              (try simp only [Act.put, pA, pB, pC, pD, pE, pF])
              refine wpAnyH_done (by kernel_rfl) ?_ _
              refine NoPanic.normal ?_
              obtain ⟨rfl⟩ := hQ7
              have C10 := (B10.below hcur).cells
              have C18 := B18.cells
              have hb13 := hcur
              replace F := (F0.below hcur).cons oo18
              go_wp2_with (first
                | (go_at_call 33; (with_reducible refine (cmpF F (by repeat (first | exact m0 | apply m1)) (by repeat (first | exact m0 | apply m1)) (by omega) (0) HZ0.out).mono ?_); rintro e wn ⟨vn, rfl, rfl, hbn⟩; replace hcur := bthen hcur hbn; clear hbn)
                | (go_at_call 19; (with_reducible refine (awake02_any _ (HT.out.below (bthen hbt hcur))).mono ?_); rintro e wn ⟨vn, rfl, rfl, hbn⟩; replace hcur := bthen hcur hbn; clear hbn))
              go_ret
              exact ⟨_, rfl, rfl, bthen hbt hcur⟩
            exact AllReadyH.nil
          exact AllReadyH.nil
end Go.Proofs.YtigoofeodbbbhaaDoor
/- The row of tandemlaw02.NumDivides. -/
namespace Go.Proofs.YtigoofeodbbbhaaDoor
open Go.RowKit Go.Proofs.YtigoofeodbbbhaaDoorL Go.Proofs.YtigoofeodbbbhaaDoorM Go.ChangeShapes Go.WideShapes Go.ChangeAt Go.Deep
set_option linter.unusedVariables false
set_option linter.unusedSimpArgs false
def numDividesArgs : Array Value := #[.agg #[.bool false, .slice none 0 0], .agg #[.bool false, .slice none 0 0], .agg #[.bool false, .slice none 0 0]]
theorem numDivides_laid (os : Os) : laidMet Tryd.prog Rows.numDividesUptoRow.laid ((laidWorld os).forCall (fun _ _ => 0) ⟨#[], numDividesArgs, []⟩).memory :=
  laidMet_of_run' 8 (by kernel_rfl) (by kernel_rfl)
theorem numDivides_reads (os : Os) {H : Type} (enc : TypeId × Value → H) : ∃ x, DataW.whole enc Tryd.prog ((laidWorld os).forCall (fun _ _ => 0) ⟨#[], numDividesArgs, []⟩).memory Tryd.f11.params.toList Rows.numDividesSpec.vars false numDividesArgs.toList 8 = some x ∧ Rows.uptoSmall H (x.1 ++ x.2.1) = true :=
  ⟨([.agg [.lit (.bool false), .nil], .agg [.lit (.bool false), .nil], .agg [.lit (.bool false), .nil]], [], []), by kernel_rfl, by kernel_rfl⟩
set_option maxRecDepth 100000 in
theorem numDivides_contract (H : Type) (enc : TypeId × Value → H) (W : World) (base : Nat) (args : Array Value) (ds gs : List (DataW H)) (before : List MemPlace)
    (hval : ∀ (j : Nat) t v, Tryd.f11.params[j]? = some t → args[j]? = some v → Value.okWide Tryd.prog W .any base t v)
    (hW : DataW.Whole enc Tryd.prog Tryd.f11.params.toList Rows.numDividesSpec.vars false W args.toList ds gs before) (hk : Rows.uptoSmall H (ds ++ gs) = true) (hL : laidMetH Tryd.prog Rows.numSumsRow.laid W) :
    Calls Tryd.prog 11 args W fun e W' => ∃ v, e = .returned v ∧ Rows.numDividesSpec.post enc Tryd.prog Tryd.f11 false true false false W args v W' := by
  have hW' := hW
  obtain ⟨p, q, hA0, hV, rfl, hfz, hnd⟩ := hW
  have hA : DataW.TrodAll enc Tryd.prog W 0 (fun _ => true) true Tryd.f11.params.toList args.toList ds p := hA0
  rw [Tryd.params11] at hA hval
  obtain ⟨v0, vs0, d0, ds0, p0, q0, hv0, rfl, rfl, h0, r0⟩ := trodAll_cons hA
  obtain ⟨v1, vs1, d1, ds1, p1, q1, hv1, rfl, rfl, h1, r1⟩ := trodAll_cons r0
  obtain ⟨v2, vs2, d2, ds2, p2, q2, hv2, rfl, rfl, h2, r2⟩ := trodAll_cons r1
  obtain ⟨hv3, rfl, rfl⟩ := trodAll_nil r2
  obtain rfl : args = #[v0, v1, v2] := by
    have e : args.toList = [v0, v1, v2] := by rw [hv0, hv1, hv2, hv3]
    exact Array.toList_inj.1 e
  obtain ⟨rfl, rfl⟩ := trodVars_none hV
  have hb : Rows.uptoBulk d0 + (Rows.uptoBulk d1 + (Rows.uptoBulk d2 + 0)) ≤ 1048576 := by
    simpa only [List.append_nil, Rows.uptoSmall, Rows.uptoBulkAll, decide_eq_true_eq] using hk
  obtain ⟨x0, rfl, hx0, hg0⟩ := openN (hval 0 26 v0 rfl rfl) h0
  obtain ⟨x1, rfl, hx1, hg1⟩ := openN (hval 1 26 v1 rfl rfl) h1
  obtain ⟨x2, rfl, hx2, hg2⟩ := openN (hval 2 26 v2 rfl rfl) h2
  clear hA0
  refine (numDivides_any x0 x1 x2 W (tab_of hL) (hg0 (by omega)) (hg1 (by omega)) (hg2 (by omega)) (by omega)).mono fun e W' ⟨v, he, hv, bel⟩ => ?_
  subst he hv
  exact ⟨_, rfl, law_post rfl Tryd.underlying4 laidOut (by rw [Tryd.params11]; decide +kernel) rfl hW' rfl bel⟩
set_option maxRecDepth 100000 in
theorem numDivides_lifted (os : Os) (started : os.Started) (H : Type) (enc : TypeId × Value → H) (F : Stop.Interp) :
    ReturnsInHanded {} Tryd.checked os 11 .any ((Rows.OpenSpec.upto Rows.numDividesSpec).preRow enc Tryd.prog Tryd.f11 Rows.numDividesUptoRow.domain false Rows.numDividesUptoRow.laid) (((Rows.OpenSpec.upto Rows.numDividesSpec).at F).post enc Tryd.prog Tryd.f11 false true false false) := by
  obtain ⟨x, hx, hxs⟩ := numDivides_reads os enc
  refine returnsInHanded_of_row (C := Tryd.checked) (s := Rows.OpenSpec.upto Rows.numDividesSpec) ownK started (by kernel_rfl) Tryd.func11
    (witness_row_at (enc := enc) (C := Tryd.checked) false (laidWorld os) numDividesArgs rfl (by kernel_rfl) (by kernel_rfl) (by kernel_rfl)
      (OpenSpec.preRow_of_cond 8 hx (by rfl) (fun k hk => by cases hk; exact hxs) (by kernel_rfl) (numDivides_laid os))) ?_
  intro W base args ds gs before hval hW _ hk _ hL _ _
  exact numDivides_contract H enc W base args ds gs before hval hW (hk _ rfl) hL
theorem numDivides_saidUpto : Rows.NumDividesUptoSaid :=
  OpenClaim.holds_of_cond 11 Tryd.f11 rfl rfl rfl rfl rfl rfl rfl ⟨rfl, rfl, rfl, rfl, rfl⟩ rfl rfl rfl rfl rfl (by kernel_rfl) Tryd.func11 (by kernel_rfl)
    (of_decide_eq_true (by kernel_rfl)) (by unfold Func.isWrapper; first | (rw [if_pos (by decide +kernel)]; kernel_rfl) | (rw [if_neg (by decide +kernel)]; exact ⟨rfl, rfl⟩))
    (fun os started H enc _ F => by rw [OpenClaim.pre_eq_preRow]; exact numDivides_lifted os started H enc F)
theorem numDivides_plainly (f : FuncId) (fn : Func) (hf : Tryd.pinned.checked.prog.funcNamed "tandem/tandemlaw02.NumDivides" = some f) (hfn : Tryd.pinned.checked.prog.funcs[f]? = some fn) :
    true = Tryd.pinned.checked.prog.looks [] ∧ ∀ (j : Nat) t, fn.params[j]? = some t → Tryd.pinned.checked.prog.wantsStandIn t = false := by
  obtain rfl : f = 11 := Option.some.inj ((show Tryd.prog.funcNamed "tandem/tandemlaw02.NumDivides" = some 11 by kernel_rfl).symm.trans hf) |>.symm
  obtain rfl : fn = Tryd.f11 := (Option.some.inj (Tryd.func11.symm.trans hfn)).symm
  refine ⟨by kernel_rfl, fun j t ht => ?_⟩
  rw [Tryd.params11] at ht
  have hm := Array.mem_of_getElem? ht
  simp only [Array.mem_def, List.mem_cons, List.not_mem_nil, or_false] at hm
  rcases hm with rfl | rfl | rfl
  · exact (show Tryd.prog.wantsStandIn 26 = false by kernel_rfl)
  · exact (show Tryd.prog.wantsStandIn 26 = false by kernel_rfl)
  · exact (show Tryd.prog.wantsStandIn 26 = false by kernel_rfl)
theorem NumDividesUptoCard_holds : Rows.NumDividesUptoCardSaid :=
  Claim7.holds_tied_plain_at .later [] _ _ _ _ numDivides_saidUpto (fun _ h => by cases h) (by kernel_rfl) (fun _ h => by cases h) numDividesUpto_row_tie rfl ⟨rfl, rfl⟩ (by kernel_rfl) rfl numDivides_plainly (by kernel_rfl)
end Go.Proofs.YtigoofeodbbbhaaDoor
