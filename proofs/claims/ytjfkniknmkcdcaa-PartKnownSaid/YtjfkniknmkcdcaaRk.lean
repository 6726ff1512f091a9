/- Laws on append of ints inside a region that draws its order; rows of rows of ints. No program. -/
import Derived.Test.YtjfkniknmkcdcaaKq
import Derived.Deep.RegionHeld3
namespace Go.Proofs.Ytjfkniknmkcdcaa.K
open Go Go.RowKit

theorem run_append_zero {P : Program} (w : World) (t ty e : TypeId) (i : TypeInfo) (ht : P.underlying t = some (.slice e)) (hi : P.info? e = some i) (A B : Option Addr) (n c d : Nat) (h : n ≤ c) :
    (Builtin.append_ #[t, t] ty #[.slice A n c, .slice B 0 d]).run P w = .ok (.slice A n c) w := by
  have hf : (Builtin.firstCells i.size 0 (.slice B 0 d)).run P w = .ok #[] w := by
    cases B with
    | none => exact run_firstCells_none w _ _ _ _
    | some b => exact run_firstCells_some w i.size 0 b 0 d [] (by simp) (by simp)
  cases A with
  | none => simp [Builtin.append_, run_underlying ht, sizeOf, typeInfo, hi, Builtin.lenOf, h, hf]
  | some a => simp [Builtin.append_, run_underlying ht, sizeOf, typeInfo, hi, Builtin.lenOf, h, hf, storeCells]
section
variable {P : Program} {w : World}
/-- append of a slice of ints, to a row of ints that is owned -/
theorem run_append_ints {k : IntKind} (base : Nat) (t ty e : TypeId) (i : TypeInfo) (z : Value) (bytes : Nat) (ht : P.underlying t = some (.slice e)) (hi : P.info? e = some i) (hz : i.zero = some z)
    (hsize : i.size = 1) (hby : i.bytes = bytes) (hzs : z.cells.size = 1) (v : Value) (n : Nat) (xs : List Int) (hown : w.ownsRow base e 1 v n (vs k xs))
    (u : Value) (news : List Int) (hu : IsInts k w u news) (h63 : n + news.length ≤ maxLen) (hbytes : (n + news.length) * bytes ≤ 140737488355328) (hbase : base ≤ w.heap.size) :
    ∃ v' w', (Builtin.append_ #[t, t] ty #[v, u]).run P w = .ok v' w' ∧ w'.ownsRow base e 1 v' (n + news.length) (vs k (xs ++ news)) ∧ w.grownBy w' v.ownBlock ∧ ∃ A c, v' = .slice A (n + news.length) c := by
  have form : ∀ {w' : World} {v' : Value} {m : Nat} {ys : List Value}, w'.ownsRow base e 1 v' m ys → ∃ A c, v' = .slice A m c := by
    intro w' v' m ys h
    rcases h.2 with ⟨rfl, h0⟩ | ⟨g, cap, cur, rfl, -⟩
    · exact ⟨none, 0, by rw [h0]⟩
    · exact ⟨_, _, rfl⟩
  obtain ⟨A, c, rfl, h1, h2, h3⟩ := hu
  rcases news with _ | ⟨x, l⟩
  · obtain ⟨B, d, rfl⟩ := form hown
    have hnd : n ≤ d := by
      rcases hown.2 with ⟨h, h0⟩ | ⟨g, cap, cur, h, -, -, hc, -⟩
      · omega
      · injection h with _ _ h; omega
    refine ⟨_, w, run_append_zero w t ty e i ht hi B A n d c hnd, by simpa using hown, ⟨rfl, rfl, rfl, Nat.le_refl _, fun _ _ _ => rfl⟩, _, _, rfl⟩
  · obtain ⟨b, off, rfl, hb, hc⟩ := h3 (by simp)
    obtain ⟨v', w', hr, h4, h5, -⟩ := run_append_own (P := P) w base t ty e i z 1 bytes ht hi hz hsize hby hzs (by decide) v n (vs k xs) hown ⟨b, off, none⟩ (x :: l).length c (vs k (x :: l)) (by simp [vs]) (fun j y hy => by
      rw [vs_get] at hy
      obtain ⟨q, hq, rfl⟩ := Option.map_eq_some_iff.1 hy
      have hj : j < (x :: l).length := (List.getElem?_eq_some_iff.1 hq).1
      have := hc j hj
      rw [List.getD_eq_getElem?_getD, hq] at this
      by_cases e : j = 0
      · subst e; simpa [Addr.add] using this
      · simpa [Addr.add, e] using this) (fun y hy => by
      simp only [vs, List.mem_map] at hy
      obtain ⟨q, -, rfl⟩ := hy
      rfl) h63 hbytes hbase
    refine ⟨v', w', hr, ?_, h5, form h4⟩
    rw [show vs k (xs ++ x :: l) = vs k xs ++ vs k (x :: l) by simp [vs]]
    exact h4
theorem wp_append_ints {k : IntKind} {o : Oper} {a : Act} {K : Act → World → Prop} {Q : Exit → Act → World → Prop} (s x : Operand) (t : TypeId)
    (ho : o.op = .call { callee := .builtin .append, args := #[s, x], argTypes := #[t, t] })
    (base : Nat) (e : TypeId) (i : TypeInfo) (z : Value) (bytes : Nat) (ht : P.underlying t = some (.slice e)) (hi : P.info? e = some i) (hz : i.zero = some z)
    (hsize : i.size = 1) (hby : i.bytes = bytes) (hzs : z.cells.size = 1) (v : Value) (n : Nat) (xs : List Int) (hs : a.eval s = v) (hown : w.ownsRow base e 1 v n (vs k xs))
    (u : Value) (news : List Int) (hx : a.eval x = u) (hu : IsInts k w u news) (m : Nat) (hm : n + news.length = m) (h63 : m ≤ maxLen) (hbytes : m * bytes ≤ 140737488355328) (hbase : base ≤ w.heap.size)
    (h : ∀ A c w', w'.ownsRow base e 1 (.slice A m c) m (vs k (xs ++ news)) → w.grownBy w' v.ownBlock → K (a.put o.dst (.slice A m c)) w') : o.wp P a w K Q := by
  subst hm
  obtain ⟨v', w', hr, h2, h3, A, c, rfl⟩ := run_append_ints (P := P) base t o.type e i z bytes ht hi hz hsize hby hzs v n xs hown u news hu h63 hbytes hbase
  unfold Oper.wp execOp
  simp only [ho, resolve, invoke, builtin, Sem.run_bind, Sem.run_pure, Result.andThen_ok, List.map_toArray, List.map_cons, List.map_nil, hs, hx, hr]
  exact h A c w' h2 h3
/-- in a plain region -/
theorem wpList_append_ints {k : IntKind} {ops : Array Oper} {rest : List Oper} {o : Oper} {a : Act} {Q : Exit → Act → World → Prop} (hgd : o.guard = none) (s x : Operand) (t : TypeId)
    (ho : o.op = .call { callee := .builtin .append, args := #[s, x], argTypes := #[t, t] })
    (base : Nat) (e : TypeId) (i : TypeInfo) (z : Value) (bytes : Nat) (ht : P.underlying t = some (.slice e)) (hi : P.info? e = some i) (hz : i.zero = some z)
    (hsize : i.size = 1) (hby : i.bytes = bytes) (hzs : z.cells.size = 1) (v : Value) (n : Nat) (xs : List Int) (hs : a.eval s = v) (hown : w.ownsRow base e 1 v n (vs k xs))
    (u : Value) (news : List Int) (hx : a.eval x = u) (hu : IsInts k w u news) (m : Nat) (hm : n + news.length = m) (h63 : m ≤ maxLen) (hbytes : m * bytes ≤ 140737488355328) (hbase : base ≤ w.heap.size)
    (h : ∀ A c w', w'.ownsRow base e 1 (.slice A m c) m (vs k (xs ++ news)) → w.grownBy w' v.ownBlock → wpList P ops Q rest (a.put o.dst (.slice A m c)) w') : wpList P ops Q (o :: rest) a w :=
  wpList_plain hgd fun _ hK => wp_append_ints s x t ho base e i z bytes ht hi hz hsize hby hzs v n xs hs hown u news hx hu m hm h63 hbytes hbase fun A c w' h1 h2 => hK _ _ (h A c w' h1 h2)
/-- at a step of a region that draws its order -/
theorem step_append_ints {k : IntKind} {ops : Array Oper} {o : Oper} {a : Act} {K : Act → World → Prop} {Q : Exit → Act → World → Prop} {E : Prop} (hgd : o.guard = none) (s x : Operand) (t : TypeId)
    (ho : o.op = .call { callee := .builtin .append, args := #[s, x], argTypes := #[t, t] })
    (base : Nat) (e : TypeId) (i : TypeInfo) (z : Value) (bytes : Nat) (ht : P.underlying t = some (.slice e)) (hi : P.info? e = some i) (hz : i.zero = some z)
    (hsize : i.size = 1) (hby : i.bytes = bytes) (hzs : z.cells.size = 1) (v : Value) (n : Nat) (xs : List Int) (hs : a.eval s = v) (hown : w.ownsRow base e 1 v n (vs k xs))
    (u : Value) (news : List Int) (hx : a.eval x = u) (hu : IsInts k w u news) (m : Nat) (hm : n + news.length = m) (h63 : m ≤ maxLen) (hbytes : m * bytes ≤ 140737488355328) (hbase : base ≤ w.heap.size)
    (h : ∀ A c w', w'.ownsRow base e 1 (.slice A m c) m (vs k (xs ++ news)) → w.grownBy w' v.ownBlock → K (a.put o.dst (.slice A m c)) w') :
    if Region.wanted o (yielded ops a.tmps) = true then Oper.wp P o a w K Q else E := by
  have hw : Region.wanted o (yielded ops a.tmps) = true := by simp [Region.wanted, hgd]
  rw [if_pos hw]
  exact wp_append_ints s x t ho base e i z bytes ht hi hz hsize hby hzs v n xs hs hown u news hx hu m hm h63 hbytes hbase h
/-- at a step of a region that draws its order: an append that keeps ints elsewhere -/
theorem step_append_noint {ops : Array Oper} {o : Oper} {a : Act} {K : Act → World → Prop} {Q : Exit → Act → World → Prop} {E : Prop} (hgd : o.guard = none) (s x : Operand) (t : TypeId)
    (ho : o.op = .call { callee := .builtin .append, args := #[s, x], argTypes := #[t, t] })
    (base : Nat) (e : TypeId) (i : TypeInfo) (z : Value) (size bytes : Nat) (ht : P.underlying t = some (.slice e)) (hi : P.info? e = some i) (hz : i.zero = some z)
    (hsize : i.size = size) (hby : i.bytes = bytes) (hzs : z.cells.size = size) (hsz : 0 < size)
    (v : Value) (n : Nat) (xs : List Value) (hs : a.eval s = v) (hown : w.ownsRow base e size v n xs) (hno : NoInt w v) (hzn : ∀ y, y ∈ z.cells.toList → ∀ k q, y ≠ .int k q)
    (ad : Addr) (m c : Nat) (news : List Value) (hx : a.eval x = .slice (some ad) m c) (hl : news.length = m * size) (hnews : ∀ j u, news[j]? = some u → w.cell? (ad.add j) = some u) (h1 : ∀ u ∈ news, u.oneCell' = true)
    (hnn : ∀ u, u ∈ news → ∀ k q, u ≠ .int k q) (hm : 0 < m)
    (h63 : n + m ≤ maxLen) (hbytes : (n + m) * bytes ≤ 140737488355328) (hbase : base ≤ w.heap.size)
    (h : ∀ v' w', w'.ownsRow base e size v' (n + m) (xs ++ news) → w.grownBy w' v.ownBlock → NoInt w' v' → K (a.put o.dst v') w') :
    if Region.wanted o (yielded ops a.tmps) = true then Oper.wp P o a w K Q else E := by
  have hw : Region.wanted o (yielded ops a.tmps) = true := by simp [Region.wanted, hgd]
  rw [if_pos hw]
  exact wp_append_noint w s x t ho base e i z size bytes ht hi hz hsize hby hzs hsz v n xs hs hown hno hzn ad m c news hx hl hnews h1 hnn hm h63 hbytes hbase h
end
/-- a row that holds no ints is not a row of ints -/
theorem own_ne {k : IntKind} {w : World} {base : Nat} {e : TypeId} {v u : Value} {n : Nat} {xs : List Int} (ho : w.ownsRow base e 1 v n (vs k xs)) (h0 : n = 0 → v = .slice none 0 0) (hu : NoInt w u) : u.ownBlock = none ∨ u.ownBlock ≠ v.ownBlock := by
  rcases ho.2 with ⟨rfl, -⟩ | ⟨g, cap, cur, rfl, -, hg, -, -, -, ht⟩
  · cases h : u.ownBlock with
    | none => exact .inl rfl
    | some b => exact .inr (by simp [Value.ownBlock])
  · right
    intro e1
    rcases n with _ | n
    · have := h0 rfl; injection this with h1; cases h1
    · have hl := ho.1
      simp only [vs, List.length_map] at hl
      have hx : ∃ q, cur.toList[0]? = some (.int k q) := by
        have h2 := congrArg (·[0]?) ht
        rw [List.getElem?_take_of_lt (by omega)] at h2
        refine ⟨xs[0]'(by omega), ?_⟩
        rw [h2]
        simp [vs]
      obtain ⟨q, hq⟩ := hx
      exact hu g (by rw [e1]; rfl) cur e (0, 0) hg _ (List.mem_of_getElem? hq) _ _ rfl
theorem own_fresh (w : World) (base : Nat) (e : TypeId) (hb : base ≤ w.heap.size) {g : Nat} (hg : w.heap.size = g) : (w.alloc (.cells #[] e)).ownsRow base e 1 (.slice (some ⟨g, 0, none⟩) 0 0) 0 (vs .i64 []) := by
  subst hg
  exact World.ownsRow_made w #[] 0 hb (Nat.zero_le _) rfl
theorem IsInts.take {k : IntKind} {w : World} {A : Option Addr} {n c : Nat} {l : List Int} (h : IsInts k w (.slice A n c) l) {j : Nat} (hj : j ≤ l.length) : IsInts k w (.slice A j c) (l.take j) := by
  obtain ⟨A', c', e, h1, h2, h3⟩ := h
  injection e with e1 e2 e3
  subst e1 e3
  have hl : (l.take j).length = j := by rw [List.length_take]; omega
  refine ⟨A, c, by rw [hl], by omega, by omega, fun hne => ?_⟩
  obtain ⟨b, off, rfl, hb, hc⟩ := h3 (by omega)
  refine ⟨b, off, rfl, hb, fun i hi => ?_⟩
  rw [hl] at hi
  rw [hc i (by omega), List.getD_eq_getElem?_getD, List.getD_eq_getElem?_getD, List.getElem?_take_of_lt hi]
theorem IsInts.drop {k : IntKind} {w : World} {A : Option Addr} {n c : Nat} {l : List Int} (h : IsInts k w (.slice A n c) l) {j : Nat} (hj : j ≤ l.length) : IsInts k w (.slice (if c = j then A else A.map fun x => x.add j) (n - j) (c - j)) (l.drop j) := by
  obtain ⟨A', c', e, h1, h2, h3⟩ := h
  injection e with e1 e2 e3
  subst e1 e3
  subst e2
  have hl : (l.drop j).length = l.length - j := by rw [List.length_drop]
  refine ⟨_, c - j, by rw [hl], by omega, by omega, fun hne => ?_⟩
  obtain ⟨b, off, rfl, hb, hc⟩ := h3 (by omega)
  refine ⟨b, off + j, ?_, hb, fun i hi => ?_⟩
  · rw [if_neg (by omega)]
    simp only [Option.map_some, Option.some.injEq]
    unfold Addr.add
    split <;> simp_all
  · rw [hl] at hi
    rw [Nat.add_assoc, hc (j + i) (by omega), List.getD_eq_getElem?_getD, List.getD_eq_getElem?_getD, List.getElem?_drop]
theorem IsInts.alloc {k : IntKind} {w : World} {v : Value} {l : List Int} (h : IsInts k w v l) (o : Obj) : IsInts k (w.alloc o) v l := h.below ((Below.refl _ _).alloc (Nat.le_refl _) o) (Nat.le_refl _)
theorem IsInts.grown_ne {k : IntKind} {w w' : World} {u : Value} {l : List Int} {row : Option Nat} (h : IsInts k w u l) (hg : w.grownBy w' row) (hne : ∀ A n c, u = .slice (some A) n c → some A.block ≠ row) : IsInts k w' u l := by
  obtain ⟨A, c, rfl, h1, h2, h3⟩ := h
  refine ⟨A, c, rfl, h1, h2, fun hn => ?_⟩
  obtain ⟨b, off, rfl, hb, hc⟩ := h3 hn
  exact ⟨b, off, rfl, Nat.lt_of_lt_of_le hb hg.size, fun i hi => hg.cell (hc i hi) (hne ⟨b, off, none⟩ _ _ rfl)⟩
theorem ints_one (X : World) (n : Int) (e : TypeId) {g : Nat} (hg : X.heap.size = g) : IsInts .i64 (X.alloc (.cells #[.int .i64 n] e)) (.slice (some ⟨g, 0, none⟩) 1 1) [n] := by
  subst hg
  exact (Blk.new X (vs .i64 [n]) e).ints rfl (by decide)
/-- a slice of slices of ints -/
def RowsI (w : World) (x : Value) (ls : List (List Nat)) : Prop :=
  ∃ (A : Option Addr) (c : Nat) (vals : List Value), x = .slice A ls.length c ∧ ls.length ≤ c ∧ c ≤ maxLen ∧ vals.length = ls.length ∧
    (ls ≠ [] → ∃ b off, A = some ⟨b, off, none⟩ ∧ b < w.heap.size ∧ ∀ (j : Nat) (u : Value), vals[j]? = some u → w.cell? ⟨b, off + j, none⟩ = some u) ∧
    ∀ (i : Nat) (v : Value) (l : List Nat), vals[i]? = some v → ls[i]? = some l → IsInts .i64 w v (l.map Int.ofNat)
theorem RowsI.below {B : Nat} {w w' : World} {x : Value} {ls : List (List Nat)} (h : RowsI w x ls) (hb : Below B w w') (hB : w.heap.size ≤ B) : RowsI w' x ls := by
  obtain ⟨A, c, vals, hx, h1, h2, h3, h4, h5⟩ := h
  refine ⟨A, c, vals, hx, h1, h2, h3, fun hne => ?_, fun i v l hv hl => (h5 i v l hv hl).below hb hB⟩
  obtain ⟨b, off, rfl, hlt, hc⟩ := h4 hne
  exact ⟨b, off, rfl, by have := hb.size; omega, fun j u hu => (hb.cell (p := ⟨b, off + j, none⟩) (by show b < B; omega)).trans (hc j u hu)⟩
theorem RowsI.at {w : World} {x : Value} {ls : List (List Nat)} (h : RowsI w x ls) : ∃ A c, x = .slice A ls.length c ∧ ls.length ≤ c ∧ c ≤ maxLen ∧ ∀ i, i < ls.length →
    ∃ b off v, A = some ⟨b, off, none⟩ ∧ b < w.heap.size ∧ w.cell? ⟨b, off + i, none⟩ = some v ∧ IsInts .i64 w v ((ls.getD i []).map Int.ofNat) := by
  obtain ⟨A, c, vals, hx, h1, h2, h3, h4, h5⟩ := h
  refine ⟨A, c, hx, h1, h2, fun i hi => ?_⟩
  obtain ⟨b, off, rfl, hlt, hc⟩ := h4 (by rintro rfl; simp at hi)
  have hv : vals[i]? = some (vals[i]'(by omega)) := List.getElem?_eq_getElem _
  exact ⟨b, off, _, rfl, hlt, hc _ _ hv, h5 i _ _ hv (by rw [List.getD_eq_getElem?_getD, List.getElem?_eq_getElem hi]; rfl)⟩
theorem own_rowsI {w : World} {base : Nat} {e : TypeId} {v : Value} {n : Nat} {vals : List Value} {ls : List (List Nat)} (h : w.ownsRow base e 1 v n vals) (hn : n = ls.length)
    (hq : ∀ (i : Nat) (u : Value) (l : List Nat), vals[i]? = some u → ls[i]? = some l → IsInts .i64 w u (l.map Int.ofNat)) : RowsI w v ls := by
  subst hn
  have hl := h.1
  rw [Nat.mul_one] at hl
  rcases h.2 with ⟨rfl, h0⟩ | ⟨g, cap, cur, rfl, -, hg, hc, hm, -, -⟩
  · rw [List.eq_nil_of_length_eq_zero h0] at hl ⊢
    exact ⟨none, 0, vals, rfl, Nat.le_refl _, Nat.zero_le _, hl, fun h => absurd rfl h, fun i u l h1 h2 => by simp at h2⟩
  · refine ⟨_, _, vals, rfl, hc, hm, hl, fun _ => ⟨g, 0, rfl, lt_of_block hg, fun j u hu => ?_⟩, hq⟩
    have := h.cells (g := g) rfl j u hu
    rw [Nat.zero_add]
    rwa [show (⟨g, 0, none⟩ : Addr).add j = ⟨g, j, none⟩ by unfold Addr.add; split <;> simp_all] at this
end Go.Proofs.Ytjfkniknmkcdcaa.K
