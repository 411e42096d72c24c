/- Lists that the call owns, whatever they hold: appending to them, storing into them, what another's change leaves. -/
import Derived.Test.YtbdcjlikjpdhfaaDoorLib3
namespace Go.Proofs.YtbdcjlikjpdhfaaDoor
open Go.RowKit Go.Proofs.YtbdcjlikjpdhfaaDoorL
set_option linter.unusedVariables false
set_option linter.unusedSimpArgs false
def encV (x : Value) : List Value := [x]
theorem encV_flat (l : List Value) : l.flatMap encV = l := by
  induction l with
  | nil => rfl
  | cons x l ih => rw [List.flatMap_cons, ih]; rfl
/-- blocks of cells stay blocks of as many cells -/
structure Fr (w w1 : World) : Prop where
  out : ∀ (g : Nat) (cur : Array Value) (t : TypeId), w.heap[g]? = some (.cells cur t (0, 0)) → ∃ cur' : Array Value, w1.heap[g]? = some (.cells cur' t (0, 0)) ∧ cur'.size = cur.size
theorem Fr.refl (w : World) : Fr w w := ⟨fun g cur t h => ⟨cur, h, rfl⟩⟩
theorem Fr.trans {w w1 w2 : World} (h : Fr w w1) (k : Fr w1 w2) : Fr w w2 := ⟨fun g cur t hg => by
  obtain ⟨c1, h1, h2⟩ := h.out g cur t hg
  obtain ⟨c2, h3, h4⟩ := k.out g c1 t h1
  exact ⟨c2, h3, h4.trans h2⟩⟩
theorem Fr.below {w w1 : World} (h : Below w.heap.size w w1) : Fr w w1 := ⟨fun g cur t hg => ⟨cur, (h.block g (Array.getElem?_eq_some_iff.1 hg).1).trans hg, rfl⟩⟩
theorem Fr.only {w w1 : World} {g : Nat} {cs cs' : List Value} {t : TypeId} (h : Only g w w1) (B : Blk w g cs t) (B' : Blk w1 g cs' t) (hl : cs'.length = cs.length) : Fr w w1 := ⟨fun k cur e hk => by
  by_cases e1 : k = g
  · subst e1
    have h1 := B.h
    rw [hk] at h1
    simp only [Option.some.injEq, Obj.cells.injEq] at h1
    obtain ⟨rfl, rfl, _⟩ := h1
    exact ⟨_, B'.h, by simpa using hl⟩
  · exact ⟨cur, (h.block k e1).trans hk, rfl⟩⟩
structure On (t : TypeId) (base k : Nat) (w : World) (v : Value) : Prop where
  ex : ∃ l : List Value, k ≤ l.length ∧ l.length ≤ 1099511627776 + k ∧ Ow encV 1 t base w v l
theorem On.frame {t : TypeId} {base k : Nat} {w w1 : World} {v : Value} (h : On t base k w v) (hf : Fr w w1) : On t base k w1 v := by
  obtain ⟨l, h1, h2, ho⟩ := h.ex
  obtain ⟨h3, h4⟩ := ho.own
  rcases h4 with ⟨rfl, h0⟩ | ⟨g, cap, cur, rfl, hg, hh, h5, h6, h7, h8⟩
  · obtain rfl : l = [] := List.eq_nil_of_length_eq_zero h0
    exact ⟨[], h1, h2, Ow.nil _ _ _ _ _⟩
  · obtain ⟨cur', k1, k2⟩ := hf.out g cur t hh
    have hle : l.length ≤ cur'.toList.length := by
      have : cur'.toList.length = cap * 1 := by rw [Array.length_toList, k2, h7]
      omega
    have hl2 : (cur'.toList.take l.length).length = l.length := by rw [List.length_take]; omega
    refine ⟨cur'.toList.take l.length, by omega, by omega, ⟨?_⟩⟩
    rw [hl2, encV_flat]
    exact ⟨by rw [hl2, Nat.mul_one], .inr ⟨g, cap, cur', rfl, hg, k1, h5, h6, by rw [k2, h7], by rw [Nat.mul_one]⟩⟩
theorem On.of {α : Type} {enc : α → List Value} {f : α → Value} {t : TypeId} {base : Nat} {w : World} {v : Value} {l : List α} (h : Ow enc 1 t base w v l) (hf : ∀ x, enc x = [f x]) (hm : l.length ≤ 1099511627776) : On t base 0 w v := by
  have hfl : l.flatMap enc = (l.map f).flatMap encV := by
    rw [encV_flat]
    clear h hm
    induction l with
    | nil => rfl
    | cons y m ih => rw [List.flatMap_cons, ih, hf]; rfl
  refine ⟨l.map f, Nat.zero_le _, by simpa using hm, ⟨?_⟩⟩
  have := h.own
  rw [hfl] at this
  rw [List.length_map]; exact this
theorem On.lower {t : TypeId} {base base' k : Nat} {w : World} {v : Value} (h : On t base k w v) (hb : base' ≤ base) : On t base' k w v := by
  obtain ⟨l, h1, h2, ho⟩ := h.ex
  exact ⟨l, h1, h2, ho.lower hb⟩
/-- append, with what it leaves of the other blocks -/
theorem append_frame {P : Program} {w : World} (base : Nat) (t ty e : TypeId) (i : TypeInfo) (z : Value) (bytes : Nat) (ht : P.underlying t = some (.slice e)) (hi : P.info? e = some i) (hz : i.zero = some z)
    (hsize : i.size = 1) (hby : i.bytes = bytes) (hzs : z.cells.size = 1)
    (v : Value) (n : Nat) (xs : List Value) (hown : w.ownsRow base e 1 v n xs)
    (a : Addr) (c : Nat) (x : Value) (hx : w.cell? a = some x) (h1 : x.oneCell' = true)
    (h63 : n + 1 ≤ maxLen) (hbytes : (n + 1) * bytes ≤ 140737488355328) (hbase : base ≤ w.heap.size) :
    ∃ v' w', (Builtin.append_ #[t, t] ty #[v, .slice (some a) 1 c]).run P w = .ok v' w' ∧ w'.ownsRow base e 1 v' (n + 1) (xs ++ [x]) ∧ w.grownBy w' v.ownBlock ∧ Fr w w' := by
  have hnews : ∀ j u, [x][j]? = some u → w.cell? (a.add j) = some u := fun j u hj => by
    cases j with
    | zero => simpa [Addr.add] using hj ▸ hx
    | succ j => simp at hj
  have ho : ∀ u ∈ [x], u.oneCell' = true := by simpa using h1
  obtain ⟨v', w', hr, h2, h3, h4⟩ := run_append_own (P := P) w base t ty e i z 1 bytes ht hi hz hsize hby hzs (by omega) v n xs hown a 1 c [x] (by simp) hnews ho h63 hbytes hbase
  refine ⟨v', w', hr, h2, h3, ⟨fun k cur e' hk => ?_⟩⟩
  have hlt : k < w.heap.size := (Array.getElem?_eq_some_iff.1 hk).1
  by_cases hne : some k = v.ownBlock
  · have holds := fun (g c' : Nat) (e : v = .slice (some ⟨g, 0, none⟩) n c') => hown.cells (g := g) (by rw [e]; rfl)
    rcases hown.2 with ⟨rfl, _⟩ | ⟨g, cap, cur0, rfl, hbg, hg, hnc, hcm, hcs, htake⟩
    · cases hne
    · simp only [Value.ownBlock, Option.some.injEq] at hne
      subst hne
      by_cases hroom : n + 1 ≤ cap
      · have hr2 := run_append_room (P := P) w t ty e i ht hi _ n cap cur0 hg a 1 c [x] (by simp [hsize]) hnews ho hroom (by rw [hsize, hcs]; simp; omega)
        rw [hr] at hr2
        simp only [Result.ok.injEq] at hr2
        obtain ⟨rfl, rfl⟩ := hr2
        rw [hg] at hk
        simp only [Option.some.injEq, Obj.cells.injEq] at hk
        obtain ⟨rfl, rfl, _⟩ := hk
        refine ⟨_, setRow_heap w _ cur0 _ e _ hg, ?_⟩
        simp only [List.size_toArray, List.length_append, List.length_take, List.length_drop, Array.length_toList, hsize, hcs, List.length_cons, List.length_nil]
        omega
      · have hr2 := run_append_grow (P := P) w t ty e i z ht hi hz _ n cap xs (by rw [hown.1, hsize]) (holds _ cap rfl) a 1 c [x] (by simp [hsize]) hnews (by omega) (by simp only [maxLen] at h63; omega) (growslice_fits (by omega) (by rw [hby]; exact hbytes))
        rw [hr] at hr2
        simp only [Result.ok.injEq] at hr2
        obtain ⟨rfl, rfl⟩ := hr2
        exact ⟨cur, (heap_alloc_old w.drew _ (show _ < w.drew.heap.size from hlt)).trans hk, rfl⟩
  · exact ⟨cur, (h3.block k hlt hne).trans hk, rfl⟩
/-- append of one element to such a list -/
theorem ev_appendO {e : TypeId} {base k : Nat} {v : Value} {P : Program} {ops : Array Oper} {Q : Exit → Act → World → Prop} {a : Act} {w : World} {rest : List Oper} (N : Tmp) {s y : Operand} {t ty : TypeId} {ps : String} {af : Array Edge} {gd : Option (Nat × Bool)}
    (hw : Region.wanted { dst := some N, op := .call { callee := .builtin .append, args := #[s, y], argTypes := #[t, t] }, type := ty, pos := ps, after := af, guard := gd } (yielded ops a.tmps) = true)
    (ht : P.underlying t = some (.slice e)) {z : Value} {bytes : Nat} (hi : (P.info? e).map (fun i => (i.zero, i.size, i.bytes)) = some (some z, 1, bytes)) (hz : z.cells.size = 1) (hbt : bytes ≤ 8)
    (hs : a.eval s = v) (f : On e base k w v) {g c : Nat} (hy : a.eval y = .slice (some ⟨g, 0, none⟩) 1 c) {x : Value} (B : Blk w g [x] e) (h1 : x.oneCell' = true) (hk : k ≤ 1048576) (hbase : base ≤ w.heap.size)
    (h : ∀ v' w1, On e base (k + 1) w1 v' → Fr w w1 → Below base w w1 → wpList P ops Q rest (a.put (some N) v') w1) :
    wpList P ops Q ({ dst := some N, op := .call { callee := .builtin .append, args := #[s, y], argTypes := #[t, t] }, type := ty, pos := ps, after := af, guard := gd } :: rest) a w := by
  cases hq : P.info? e with
  | none => rw [hq] at hi; cases hi
  | some i =>
    rw [hq] at hi
    simp only [Option.map_some, Option.some.injEq, Prod.mk.injEq] at hi
    obtain ⟨hz0, hz1, hz2⟩ := hi
    obtain ⟨l, h2, h3, ho⟩ := f.ex
    have hm : (l.length + 1) * bytes ≤ (l.length + 1) * 8 := Nat.mul_le_mul_left _ hbt
    obtain ⟨v', w', hr, h4, h5, h6⟩ := append_frame (P := P) (w := w) base t ty e i z bytes ht hq hz0 hz1 hz2 hz v l.length (l.flatMap encV) ho.own ⟨g, 0, none⟩ c x (by rw [B.cells]; rfl) h1 (by simp only [maxLen]; omega) (by omega) hbase
    refine ev (v := v') (w1 := w') hw ?_ (h v' w' ⟨l ++ [x], by simp; omega, by simp; omega, ⟨?_⟩⟩ h6 (ho.grown (Below.refl _ _) h5 (Nat.le_refl _) hbase))
    · simp [execOp, resolve, invoke, builtin, hs, hy, hr, Result.andThen]
    · rw [List.length_append, List.flatMap_append]
      simpa [encV] using h4
/-- a block that has a first cell -/
structure Has (w : World) (g : Nat) (t : TypeId) : Prop where
  ex : ∃ cs : List Value, Blk w g cs t ∧ 0 < cs.length
theorem Has.frame {w w1 : World} {g : Nat} {t : TypeId} (h : Has w g t) (hf : Fr w w1) : Has w1 g t := by
  obtain ⟨cs, B, h1⟩ := h.ex
  obtain ⟨cur, k1, k2⟩ := hf.out g _ t B.h
  exact ⟨cur.toList, ⟨by simpa using k1⟩, by rw [Array.length_toList, k2]; simpa using h1⟩
theorem On.open {t : TypeId} {base k : Nat} {w : World} {v : Value} (h : On t base k w v) (hk : 0 < k) : ∃ g n c : Nat, v = .slice (some ⟨g, 0, none⟩) n c ∧ base ≤ g ∧ (0 : Int) < (n : Int) ∧ Has w g t := by
  obtain ⟨l, h1, h2, ho⟩ := h.ex
  obtain ⟨h3, h4⟩ := ho.own
  rcases h4 with ⟨rfl, h0⟩ | ⟨g, cap, cur, rfl, hg, hh, h5, h6, h7, h8⟩
  · omega
  · exact ⟨g, _, cap, rfl, hg, by omega, ⟨cur.toList, ⟨by simpa using hh⟩, by rw [Array.length_toList, h7]; omega⟩⟩
theorem ev_storeO {P : Program} {ops : Array Oper} {Q : Exit → Act → World → Prop} {a : Act} {w : World} {rest : List Oper} {t ty : TypeId} {x y : Operand} {ps : String} {af : Array Edge} {gd : Option (Nat × Bool)}
    (hw : Region.wanted { dst := none, op := .store t x y, type := ty, pos := ps, after := af, guard := gd } (yielded ops a.tmps) = true) {g : Nat} (hx : a.eval x = .pointer (some ⟨g, 0, none⟩)) {t' : TypeId} (f : Has w g t')
    {u : Value} (hy : (a.eval y).cells = #[u]) {z : Option Value} {b : Nat} (hi : (P.info? t).map (fun i => (i.zero, i.size, i.bytes)) = some (z, 1, b)) (h1 : u.oneCell' = true)
    (h : ∀ w1, Fr w w1 → Only g w w1 → wpList P ops Q rest a w1) :
    wpList P ops Q ({ dst := none, op := .store t x y, type := ty, pos := ps, after := af, guard := gd } :: rest) a w := by
  obtain ⟨cs, B, hl⟩ := f.ex
  refine ev_store hw hx B (news := [u]) (by rw [hy]) hi (by simp; omega) (by simpa using h1) ?_
  intro w1 ho hB
  refine h w1 (Fr.only ho B hB ?_) ho
  simp only [List.length_append, List.length_take, List.length_drop, List.length_cons, List.length_nil]
  omega
end Go.Proofs.YtbdcjlikjpdhfaaDoor
