/- A part of the proof. -/
import Derived.Test.YtdapbegadhcpcaaGreatDoorSame
import Derived.Test.YtdapbegadhcpcaaGreatDoorMH
import Derived.Test.YtdapbegadhcpcaaGreatDoorRead13
set_option linter.unusedVariables false
set_option linter.unusedSimpArgs false
namespace Go.Proofs.YtdapbegadhcpcaaGreatDoor
open Go.RowKit Go.Proofs.YtdapbegadhcpcaaGreatDoorL Go.Proofs.YtdapbegadhcpcaaGreatDoorM
set_option maxHeartbeats 1000000 in
theorem sameNum_any (neg : Bool) (l : List Nat) (A A2 : Option Addr) (c c2 : Nat) (w : World) (h : Lim w A c l) (h2 : Lim w A2 c2 l) :
 Calls Tryz.prog 19 #[.agg #[.bool neg, .slice A l.length c], .agg #[.bool neg, .slice A2 l.length c2]] w (Gives w fun v _ => v = .bool true) := by
 have HS := As.mk (fun W (hb : Below w.heap.size w W) => sameLimbs_any l l.length l.length rfl rfl A A2 c c2 W (h.rd.below hb) (h2.rd.below hb) h.cap h2.cap (by have := h.max; omega))
 clear h h2
 go_enter Tryz.func19, Tryz.ntmps19
 go_wp2_with (first
  | ((with_reducible refine g_dst 2 ?_); go_must (refine ev_box 2 rfl (cs := [.bool neg, .slice A l.length c]) (by rfl) ?_); intro g1 w1 hb1 B1 hg1; have C1 := B1.cells)
  | ((with_reducible refine g_dst 3 ?_); go_must (refine ev_box 3 rfl (cs := [.bool neg, .slice A2 l.length c2]) (by rfl) ?_); intro g2 w2 hb2 B2 hg2; replace B1 := B1.below hb2; clear C1; have C1 := B1.cells; have C2 := B2.cells; replace hb2 := bthen hb1 hb2)
  | (go_at_call 37; (with_reducible refine (HS.out _ hb2).mono ?_); rintro e3 w3 ⟨v3, rfl, rfl, hb3⟩; replace hb3 := bthen hb2 hb3))
 go_ret
 exact ⟨_, rfl, by simp, hb3⟩
def SameOK (w : World) (x : LD) : Prop := ∀ (y : LD) (W : World), Below w.heap.size w W → Good W y → erD y = erD x → Calls Tryz.prog 11 #[.agg (encD x).toArray, .agg (encD y).toArray] W (Gives W fun v _ => v = .bool true)
set_option maxRecDepth 8000 in
set_option maxHeartbeats 4000000 in
theorem sameAll_any (w : World) (l : List LD) (hx : ∀ x ∈ l, SameOK w x) (A : Option Addr) (c : Nat) (hr : Rd encD 7 w A l) (hc : l.length ≤ c) (hm : l.length ≤ 1099511627776)
 (l2 : List LD) (A2 : Option Addr) (c2 : Nat) (W : World) (hW : Below w.heap.size w W) (hr2 : Rd encD 7 W A2 l2) (hg2 : ∀ y ∈ l2, Good W y) (he : erAll l2 = erAll l) (hc2 : l2.length ≤ c2) :
 Calls Tryz.prog 7 #[.slice A l.length c, .slice A2 l2.length c2] W (Gives W fun v _ => v = .bool true) := by
 have hll : l2.length = l.length := by rw [← erAll_len, ← erAll_len, he]
 have hek : ∀ (k : Nat) (h1 : k < l.length) (h2 : k < l2.length), erD l2[k] = erD l[k] := fun k h1 h2 => by
  have e1 : (erAll l2)[k]? = (erAll l)[k]? := by rw [he]
  rw [erAll_map, erAll_map, List.getElem?_map, List.getElem?_map, List.getElem?_eq_getElem h1, List.getElem?_eq_getElem h2] at e1
  simpa using e1
 have hrW := hr.below hW
 have HX := As.mk hx
 have HG := As.mk hg2
 have HE := As.mk hek
 have HL := As.mk hll
 have z0 : ((l.length : Int) != (l2.length : Int)) = false := by simp; omega
 clear hx hg2 hek he hr
 go_enter Tryz.func7, Tryz.ntmps7
 clear hll
 go_wp2
 go_loopw [5] (fun v wr => ∃ k : Nat, k ≤ l.length ∧ v = .int .i64 (k : Int) ∧ Below W.heap.size W wr) (fun v _ => l.length - (intOf v).toNat)
 case atStart => exact ⟨0, by omega, rfl, Below.refl _ _⟩
 case round =>
  obtain ⟨k, hk, rfl, hb⟩ := hrel
  by_cases h : k < l.length
  · have h2 : k < l2.length := by have := HL.out; omega
    have HRW := As.mk hrW
    have HR2 := As.mk hr2
    obtain ⟨b, off, rfl⟩ := hrW.get (ne_nil_of_lt h)
    obtain ⟨b2, off2, rfl⟩ := hr2.get (ne_nil_of_lt h2)
    clear hrW hr2
    have hsx := fun W' hb' => HX.out _ (List.getElem_mem h) l2[k] W' hb'
    have hgy := (HG.out _ (List.getElem_mem h2)).to hb
    have hey := HE.out k h h2
    have hcm : (k : Int) < (l.length : Int) := by omega
    have hcm2 : (k : Int) < (l2.length : Int) := by omega
    obtain ⟨x, hx⟩ : ∃ x, x = l[k] := ⟨_, rfl⟩
    obtain ⟨y, hy⟩ : ∃ y, y = l2[k] := ⟨_, rfl⟩
    rw [← hx] at hsx hey
    rw [← hy] at hsx hgy hey
    have HSX := As.mk (fun W' (hb1 : Below W.heap.size W W') (hb2 : Below wr.heap.size wr W') => hsx W' (bthen hW hb1) (hgy.to hb2) hey)
    clear hsx hgy hey
    have HXX := As.mk hx
    have HYY := As.mk hy
    clear hx hy
    obtain ⟨kind, n, neg, mA, mc, mag, text, Ai, ci, items, Ar, cr, rest⟩ := x
    obtain ⟨kind2, n2, neg2, mA2, mc2, mag2, text2, Ai2, ci2, items2, Ar2, cr2, rest2⟩ := y
    simp only [encD] at HSX
    have hS : ∀ W' : World, Below wr.heap.size wr W' → (W'.cell? ⟨b, off + k * 7, none⟩ = some (.int .i64 kind) ∧ W'.cell? ⟨b, off + k * 7 + 1, none⟩ = some (.int .i64 n) ∧ W'.cell? ⟨b, off + k * 7 + 2, none⟩ = some (.bool neg) ∧ W'.cell? ⟨b, off + k * 7 + 3, none⟩ = some (.slice mA mag.length mc) ∧ W'.cell? ⟨b, off + k * 7 + 4, none⟩ = some (.string ⟨text.toArray⟩) ∧ W'.cell? ⟨b, off + k * 7 + 5, none⟩ = some (.slice Ai items.length ci) ∧ W'.cell? ⟨b, off + k * 7 + 6, none⟩ = some (.slice Ar rest.length cr)) ∧ (W'.cell? ⟨b2, off2 + k * 7, none⟩ = some (.int .i64 kind2) ∧ W'.cell? ⟨b2, off2 + k * 7 + 1, none⟩ = some (.int .i64 n2) ∧ W'.cell? ⟨b2, off2 + k * 7 + 2, none⟩ = some (.bool neg2) ∧ W'.cell? ⟨b2, off2 + k * 7 + 3, none⟩ = some (.slice mA2 mag2.length mc2) ∧ W'.cell? ⟨b2, off2 + k * 7 + 4, none⟩ = some (.string ⟨text2.toArray⟩) ∧ W'.cell? ⟨b2, off2 + k * 7 + 5, none⟩ = some (.slice Ai2 items2.length ci2) ∧ W'.cell? ⟨b2, off2 + k * 7 + 6, none⟩ = some (.slice Ar2 rest2.length cr2)) := fun W' hb' => by
     have q1 := (HRW.out.below (bthen hb hb')).cell k h
     have q2 := (HR2.out.below (bthen hb hb')).cell k h2
     rw [← HXX.out] at q1
     rw [← HYY.out] at q2
     exact ⟨⟨q1 0 _ rfl, q1 1 _ rfl, q1 2 _ rfl, q1 3 _ rfl, q1 4 _ rfl, q1 5 _ rfl, q1 6 _ rfl⟩, ⟨q2 0 _ rfl, q2 1 _ rfl, q2 2 _ rfl, q2 3 _ rfl, q2 4 _ rfl, q2 5 _ rfl, q2 6 _ rfl⟩⟩
    go_wp2
    have hd := (Below.refl wr.heap.size wr).drew
    have hS0 := hS _ hd
    go_region_held3 (fun W' => (W'.cell? ⟨b, off + k * 7, none⟩ = some (.int .i64 kind) ∧ W'.cell? ⟨b, off + k * 7 + 1, none⟩ = some (.int .i64 n) ∧ W'.cell? ⟨b, off + k * 7 + 2, none⟩ = some (.bool neg) ∧ W'.cell? ⟨b, off + k * 7 + 3, none⟩ = some (.slice mA mag.length mc) ∧ W'.cell? ⟨b, off + k * 7 + 4, none⟩ = some (.string ⟨text.toArray⟩) ∧ W'.cell? ⟨b, off + k * 7 + 5, none⟩ = some (.slice Ai items.length ci) ∧ W'.cell? ⟨b, off + k * 7 + 6, none⟩ = some (.slice Ar rest.length cr)) ∧ (W'.cell? ⟨b2, off2 + k * 7, none⟩ = some (.int .i64 kind2) ∧ W'.cell? ⟨b2, off2 + k * 7 + 1, none⟩ = some (.int .i64 n2) ∧ W'.cell? ⟨b2, off2 + k * 7 + 2, none⟩ = some (.bool neg2) ∧ W'.cell? ⟨b2, off2 + k * 7 + 3, none⟩ = some (.slice mA2 mag2.length mc2) ∧ W'.cell? ⟨b2, off2 + k * 7 + 4, none⟩ = some (.string ⟨text2.toArray⟩) ∧ W'.cell? ⟨b2, off2 + k * 7 + 5, none⟩ = some (.slice Ai2 items2.length ci2) ∧ W'.cell? ⟨b2, off2 + k * 7 + 6, none⟩ = some (.slice Ar2 rest2.length cr2))) (first | assumption | exact hS _ hb2) (first
     | (go_at_call 11; (with_reducible refine (HSX.out _ (bthen hb hd) hd).mono ?_); rintro e v3 ⟨v2, rfl, rfl, hb2⟩; replace hb2 := bthen hd hb2))
    go_wp2
    go_roundw
    case rel => exact ⟨k + 1, by omega, by go_num, bthen hb hb2⟩
    case measure => simp [intOf]; omega
  · go_wp2
    go_ret
    exact ⟨_, rfl, rfl, hb⟩
set_option maxRecDepth 8000 in
set_option maxHeartbeats 4000000 in
theorem same_ok (w : World) (x : LD) (h : Good w x) : wtV (erD x) ≤ 1099511627776 → SameOK w x := by
 induction h with
 | @mk kind n neg A c mag text Ai ci items Ar cr rest hn1 hn2 lim ri li ni rr lr nr gi gr ihi ihr =>
   intro hwt y W hW hy he
   rw [erD, wtV] at hwt
   have hil := wtVs_len (erAll items)
   have hrl := wtVs_len (erAll rest)
   rw [erAll_len] at hil hrl
   have hiw : ∀ z ∈ items, SameOK w z := fun z hz => ihi z hz (by have := wtVs_mem (x := erD z) (l := erAll items) (by rw [erAll_map]; exact List.mem_map_of_mem hz); omega)
   have hrw : ∀ z ∈ rest, SameOK w z := fun z hz => ihr z hz (by have := wtVs_mem (x := erD z) (l := erAll rest) (by rw [erAll_map]; exact List.mem_map_of_mem hz); omega)
   cases hy with
   | @mk kind' n' neg' A' c' mag' text' Ai' ci' items' Ar' cr' rest' hn1' hn2' lim' ri' li' ni' rr' lr' nr' gi' gr' =>
   simp only [erD, DV.mk.injEq] at he
   obtain ⟨rfl, rfl, rfl, rfl, rfl, hei, her⟩ := he
   have HN := As.mk (fun W2 (hb : Below W.heap.size W W2) => sameNum_any neg' mag' A A' c c' W2 (lim.below (bthen hW hb)) (lim'.below hb))
   have HI := As.mk (fun W2 (hb : Below W.heap.size W W2) => sameAll_any w items hiw Ai ci ri li (by omega) items' Ai' ci' W2 (bthen hW hb) (ri'.below hb) (fun z hz => (gi' z hz).to hb) hei li')
   have HR := As.mk (fun W2 (hb : Below W.heap.size W W2) => sameAll_any w rest hrw Ar cr rr lr (by omega) rest' Ar' cr' W2 (bthen hW hb) (rr'.below hb) (fun z hz => (gr' z hz).to hb) her lr')
   clear hei her ihi ihr hiw hrw gi gr gi' gr' hil hrl hwt ni nr ni' nr' li li' lr lr' ri ri' rr rr' lim lim' hn1 hn2 hn1' hn2'
   simp only [encD]
   go_enter Tryz.func11, Tryz.ntmps11
   go_wp2_with (first
    | ((with_reducible refine g_dst 2 ?_); go_must (refine ev_box 2 rfl (cs := [.int .i64 kind', .int .i64 n', .bool neg', .slice A mag'.length c, .string ⟨text'.toArray⟩, .slice Ai items.length ci, .slice Ar rest.length cr]) (by rfl) ?_); intro g1 w1 hb1 B1 hg1; have C1 := B1.cells)
    | ((with_reducible refine g_dst 3 ?_); go_must (refine ev_box 3 rfl (cs := [.int .i64 kind', .int .i64 n', .bool neg', .slice A' mag'.length c', .string ⟨text'.toArray⟩, .slice Ai' items'.length ci', .slice Ar' rest'.length cr']) (by rfl) ?_); intro g2 w2 hb2 B2 hg2; replace B1 := B1.below hb2; clear C1; have C1 := B1.cells; have C2 := B2.cells; replace hb2 := bthen hb1 hb2)
    | (go_at_call 19; (with_reducible refine (HN.out _ hb2).mono ?_); rintro e3 w3 ⟨v3, rfl, rfl, hb3⟩; replace B1 := B1.below hb3; replace B2 := B2.below hb3; clear C1 C2; have C1 := B1.cells; have C2 := B2.cells; replace hb3 := bthen hb2 hb3)
    | (go_at_call 7; (with_reducible refine (HI.out _ hb3).mono ?_); rintro e4 w4 ⟨v4, rfl, rfl, hb4⟩; replace B1 := B1.below hb4; replace B2 := B2.below hb4; clear C1 C2 HI; have C1 := B1.cells; have C2 := B2.cells; replace hb4 := bthen hb3 hb4)
    | (go_at_call 7; (with_reducible refine (HR.out _ hb4).mono ?_); rintro e5 w5 ⟨v5, rfl, rfl, hb5⟩; replace hb5 := bthen hb4 hb5))
   go_ret
   exact ⟨_, rfl, by simp, hb5⟩
end Go.Proofs.YtdapbegadhcpcaaGreatDoor
