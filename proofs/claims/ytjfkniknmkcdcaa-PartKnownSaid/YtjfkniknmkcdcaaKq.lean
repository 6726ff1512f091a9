/- Words on rows of structs of three cells (a bool and two slices), and on append that keeps what lies elsewhere. No program. -/
import Derived.Test.YtjfkniknmkcdcaaKit
import Derived.Laws.AppendOwn
namespace Go.Proofs.Ytjfkniknmkcdcaa.K
open Go Go.RowKit

/-- no cell of a slice's block is an int -/
def NoInt (w : World) (v : Value) : Prop := ∀ g, v.ownBlock = some g → ∀ cur e f, w.heap[g]? = some (.cells cur e f) → ∀ x, x ∈ cur.toList → ∀ k q, x ≠ .int k q
theorem NoInt.nil (w : World) : NoInt w (.slice none 0 0) := fun g hg => by simp [Value.ownBlock] at hg
theorem NoInt.grown {w w' : World} {v : Value} {row : Option Nat} (h : NoInt w v) (hg : w.grownBy w' row) (hlt : ∀ g, v.ownBlock = some g → g < w.heap.size) (hne : v.ownBlock = none ∨ v.ownBlock ≠ row) : NoInt w' v := by
  intro g hv cur e f hc
  rw [hg.block g (hlt g hv) (by rcases hne with h | h; rw [h] at hv; cases hv; rwa [hv] at h)] at hc
  exact h g hv cur e f hc
theorem NoInt.below {w w' : World} {v : Value} {B : Nat} (h : NoInt w v) (hb : Below B w w') (hlt : ∀ g, v.ownBlock = some g → g < B) : NoInt w' v := by
  intro g hv cur e f hc
  rw [hb.block g (hlt g hv)] at hc
  exact h g hv cur e f hc
theorem NoInt.alloc {w : World} {v : Value} (h : NoInt w v) (hlt : ∀ g, v.ownBlock = some g → g < w.heap.size) (o : Obj) : NoInt (w.alloc o) v :=
  h.grown (World.grownBy_alloc w o none) hlt (by cases v.ownBlock <;> simp)

theorem mem_zeroCells {z : Array Value} {n : Nat} {x : Value} (hz : ∀ y, y ∈ z.toList → ∀ k q, y ≠ .int k q) (h : x ∈ (Builtin.zeroCells z n).toList) : ∀ k q, x ≠ .int k q := by
  rw [Array.mem_toList_iff] at h
  unfold Builtin.zeroCells at h
  rw [Array.mem_map] at h
  obtain ⟨i, hi, rfl⟩ := h
  rw [Array.mem_range] at hi
  have hs : 0 < z.size := by
    rcases Nat.eq_zero_or_pos z.size with h0 | h0
    · rw [h0, Nat.mul_zero] at hi; omega
    · exact h0
  have hm : i % z.size < z.size := Nat.mod_lt _ hs
  rw [getElem!_pos z (i % z.size) hm]
  exact hz _ (Array.mem_toList_iff.2 (Array.getElem_mem hm))

section
variable {P : Program} (w : World)
/-- append of some to a row of its own that holds no ints: the row holds none behind it, either -/
theorem run_append_noint (base : Nat) (t ty e : TypeId) (i : TypeInfo) (z : Value) (size bytes : Nat) (ht : P.underlying t = some (.slice e)) (hi : P.info? e = some i) (hz : i.zero = some z)
    (hsize : i.size = size) (hby : i.bytes = bytes) (hzs : z.cells.size = size) (hsz : 0 < size)
    (v : Value) (n : Nat) (xs : List Value) (hown : w.ownsRow base e size v n xs) (hno : NoInt w v) (hzn : ∀ y, y ∈ z.cells.toList → ∀ k q, y ≠ .int k q)
    (a : Addr) (m c : Nat) (news : List Value) (hl : news.length = m * size) (hnews : ∀ j u, news[j]? = some u → w.cell? (a.add j) = some u) (h1 : ∀ u ∈ news, u.oneCell' = true)
    (hnn : ∀ u, u ∈ news → ∀ k q, u ≠ .int k q) (hm : 0 < m)
    (h63 : n + m ≤ maxLen) (hbytes : (n + m) * bytes ≤ 140737488355328) (hbase : base ≤ w.heap.size) :
    ∃ v' w', (Builtin.append_ #[t, t] ty #[v, .slice (some a) m c]).run P w = .ok v' w' ∧ w'.ownsRow base e size v' (n + m) (xs ++ news) ∧ w.grownBy w' v.ownBlock ∧ NoInt w' v' := by
  obtain ⟨v', w', hr, ho, hg, -⟩ := run_append_own (P := P) w base t ty e i z size bytes ht hi hz hsize hby hzs hsz v n xs hown a m c news hl hnews h1 h63 hbytes hbase
  refine ⟨v', w', hr, ho, hg, ?_⟩
  subst hsize hby
  have hsmall : n + m ≤ 9223372036854775807 := by simp only [maxLen] at h63; omega
  rcases hown.2 with ⟨rfl, rfl⟩ | ⟨g, cap, cur, rfl, hbg, hgg, hnc, hcm, hcs, htake⟩
  · have hr2 := run_append_nil (P := P) w t ty e i z ht hi hz a m c news hl hnews hm (by omega) (by have hb := hbytes; simp only [Nat.zero_add] at hb; omega)
    rw [hr2] at hr
    injection hr with e1 e2
    subst e1 e2
    intro g hv cur e' f hc x hx
    simp only [Value.ownBlock, Option.some.injEq] at hv
    subst hv
    have := heap_alloc_new w.drew (.cells (news.toArray ++ Builtin.zeroCells z.cells (grownCap w m 0 e - m)) e)
    rw [show w.drew.heap.size = w.heap.size from rfl] at this
    rw [this] at hc
    injection hc with hc
    injection hc with h2 h3 h4
    subst h2
    rw [Array.toList_append, List.mem_append] at hx
    rcases hx with hx | hx
    · exact hnn x hx
    · exact mem_zeroCells hzn hx
  · have hnc2 : ∀ y, y ∈ cur.toList → ∀ k q, y ≠ .int k q := hno g rfl cur e (0, 0) hgg
    by_cases hroom : n + m ≤ cap
    · have hfit : n * i.size + news.length ≤ cur.size := by rw [hl, hcs, ← Nat.add_mul]; exact Nat.mul_le_mul_right _ hroom
      have hr2 := run_append_room (P := P) w t ty e i ht hi g n cap cur hgg a m c news hl hnews h1 hroom hfit
      rw [hr2] at hr
      injection hr with e1 e2
      subst e1 e2
      intro g' hv cur' e' f hc x hx
      simp only [Value.ownBlock, Option.some.injEq] at hv
      subst hv
      rw [setRow_heap w g cur _ e _ hgg] at hc
      injection hc with hc
      injection hc with h2 h3 h4
      subst h2
      simp only [List.mem_append] at hx
      rcases hx with (hx | hx) | hx
      · exact hnc2 x (List.mem_of_mem_take hx)
      · exact hnn x hx
      · exact hnc2 x (List.mem_of_mem_drop hx)
    · have holds : ∀ j u, xs[j]? = some u → w.cell? ((⟨g, 0, none⟩ : Addr).add j) = some u := hown.cells (g := g) rfl
      have hr2 := run_append_grow (P := P) w t ty e i z ht hi hz ⟨g, 0, none⟩ n cap xs hown.1 holds a m c news hl hnews (by omega) (by omega) (growslice_fits (by omega) hbytes)
      rw [hr2] at hr
      injection hr with e1 e2
      subst e1 e2
      intro g' hv cur' e' f hc x hx
      simp only [Value.ownBlock, Option.some.injEq] at hv
      subst hv
      have h5 := heap_alloc_new w.drew (.cells (xs.toArray ++ news.toArray ++ Builtin.zeroCells z.cells (grownCap w (n + m) cap e - (n + m))) e)
      rw [show w.drew.heap.size = w.heap.size from rfl] at h5
      rw [h5] at hc
      injection hc with hc
      injection hc with h2 h3 h4
      subst h2
      rw [Array.toList_append, Array.toList_append, List.mem_append, List.mem_append] at hx
      rcases hx with (hx | hx) | hx
      · rw [← htake] at hx; exact hnc2 x (List.mem_of_mem_take hx)
      · exact hnn x hx
      · exact mem_zeroCells hzn hx
theorem wp_append_noint {o : Oper} {a : Act} {K : Act → World → Prop} {Q : Exit → Act → World → Prop} (s x : Operand) (t : TypeId)
    (ho : o.op = .call { callee := .builtin .append, args := #[s, x], argTypes := #[t, t] })
    (base : Nat) (e : TypeId) (i : TypeInfo) (z : Value) (size bytes : Nat) (ht : P.underlying t = some (.slice e)) (hi : P.info? e = some i) (hz : i.zero = some z)
    (hsize : i.size = size) (hby : i.bytes = bytes) (hzs : z.cells.size = size) (hsz : 0 < size)
    (v : Value) (n : Nat) (xs : List Value) (hs : a.eval s = v) (hown : w.ownsRow base e size v n xs) (hno : NoInt w v) (hzn : ∀ y, y ∈ z.cells.toList → ∀ k q, y ≠ .int k q)
    (ad : Addr) (m c : Nat) (news : List Value) (hx : a.eval x = .slice (some ad) m c) (hl : news.length = m * size) (hnews : ∀ j u, news[j]? = some u → w.cell? (ad.add j) = some u) (h1 : ∀ u ∈ news, u.oneCell' = true)
    (hnn : ∀ u, u ∈ news → ∀ k q, u ≠ .int k q) (hm : 0 < m)
    (h63 : n + m ≤ maxLen) (hbytes : (n + m) * bytes ≤ 140737488355328) (hbase : base ≤ w.heap.size)
    (h : ∀ v' w', w'.ownsRow base e size v' (n + m) (xs ++ news) → w.grownBy w' v.ownBlock → NoInt w' v' → K (a.put o.dst v') w') : o.wp P a w K Q := by
  obtain ⟨v', w', hr, h2, h3, h4⟩ := run_append_noint (P := P) w base t o.type e i z size bytes ht hi hz hsize hby hzs hsz v n xs hown hno hzn ad m c news hl hnews h1 hnn hm h63 hbytes hbase
  unfold Oper.wp execOp
  simp only [ho, resolve, invoke, builtin, Sem.run_bind, Sem.run_pure, Result.andThen_ok, List.map_toArray, List.map_cons, List.map_nil, hs, hx, hr]
  exact h v' w' h2 h3 h4
end
/-- the law of 'out = append(out, ..)' for the walk -/
theorem wpList_append_noint {P : Program} {w : World} {ops : Array Oper} {rest : List Oper} {o : Oper} {a : Act} {Q : Exit → Act → World → Prop} (hgd : o.guard = none) (s x : Operand) (t : TypeId)
    (ho : o.op = .call { callee := .builtin .append, args := #[s, x], argTypes := #[t, t] })
    (base : Nat) (e : TypeId) (i : TypeInfo) (z : Value) (size bytes : Nat) (ht : P.underlying t = some (.slice e)) (hi : P.info? e = some i) (hz : i.zero = some z)
    (hsize : i.size = size) (hby : i.bytes = bytes) (hzs : z.cells.size = size) (hsz : 0 < size)
    (v : Value) (n : Nat) (xs : List Value) (hs : a.eval s = v) (hown : w.ownsRow base e size v n xs) (hno : NoInt w v) (hzn : ∀ y, y ∈ z.cells.toList → ∀ k q, y ≠ .int k q)
    (ad : Addr) (m c : Nat) (news : List Value) (hx : a.eval x = .slice (some ad) m c) (hl : news.length = m * size) (hnews : ∀ j u, news[j]? = some u → w.cell? (ad.add j) = some u) (h1 : ∀ u ∈ news, u.oneCell' = true)
    (hnn : ∀ u, u ∈ news → ∀ k q, u ≠ .int k q) (hm : 0 < m)
    (h63 : n + m ≤ maxLen) (hbytes : (n + m) * bytes ≤ 140737488355328) (hbase : base ≤ w.heap.size)
    (h : ∀ v' w', w'.ownsRow base e size v' (n + m) (xs ++ news) → w.grownBy w' v.ownBlock → NoInt w' v' → wpList P ops Q rest (a.put o.dst v') w') : wpList P ops Q (o :: rest) a w :=
  wpList_plain hgd fun _ hK => wp_append_noint w s x t ho base e i z size bytes ht hi hz hsize hby hzs hsz v n xs hs hown hno hzn ad m c news hx hl hnews h1 hnn hm h63 hbytes hbase fun v' w' h2 h3 h4 => hK _ _ (h v' w' h2 h3 h4)

/-- ints that lie elsewhere are as they were -/
theorem IsInts.grown {k : IntKind} {w w' : World} {u v : Value} {l : List Int} {base size n : Nat} {e : TypeId} {xs : List Value} (h : IsInts k w u l) (hown : w.ownsRow base e size v n xs) (hno : NoInt w v) (hg : w.grownBy w' v.ownBlock) : IsInts k w' u l := by
  obtain ⟨A, c, hv, h1, h2, h3⟩ := h
  refine ⟨A, c, hv, h1, h2, fun hne => ?_⟩
  obtain ⟨b, off, rfl, hb, hc⟩ := h3 hne
  have hbv : some b ≠ v.ownBlock := by
    intro hbv
    have h4 := hc 0 (by omega)
    rcases hown.2 with ⟨rfl, -⟩ | ⟨g, cap, cur, rfl, -, hgg, -⟩
    · simp [Value.ownBlock] at hbv
    · simp only [Value.ownBlock, Option.some.injEq] at hbv
      subst hbv
      simp only [World.cell?, hgg] at h4
      exact hno b rfl cur e (0, 0) hgg _ (Array.mem_toList_iff.2 (Array.mem_of_getElem? h4)) _ _ rfl
  exact ⟨b, off, rfl, Nat.lt_of_lt_of_le hb hg.size, fun i hi => hg.cell (hc i hi) hbv⟩
theorem IsInts.drew {k : IntKind} {w : World} {u : Value} {l : List Int} (h : IsInts k w u l) : IsInts k w.drew u l := h
theorem Below.grown {B : Nat} {w w1 w' : World} {row : Option Nat} (h : Below B w w1) (hg : w1.grownBy w' row) (hrow : ∀ k, row = some k → B ≤ k) (hB : B ≤ w1.heap.size) : Below B w w' :=
  h.trans ⟨hg.os, hg.tape, hg.output, hg.size, fun i hi => hg.block i (by omega) (fun e => by have := hrow i e.symm; omega)⟩

theorem bel_step {X Y Z : World} (hb : Below Y.heap.size Y Z) (hy : Below X.heap.size X Y) : Below X.heap.size X Z := hy.trans (hb.mono hy.size)
theorem Below.alloc' {X Y : World} (h : Below X.heap.size X Y) (o : Obj) : Below X.heap.size X (Y.alloc o) := h.alloc h.size o
theorem ne_hi {a b k : Nat} (i : Nat) (h : a + k < b) (hi : i ≤ k) : ¬ b = a + i := by omega
theorem ne_lo {a b k : Nat} (i : Nat) (h : a + k < b) (hi : i ≤ k) : ¬ a + i = b := by omega
theorem ne_hi1 {a b k : Nat} (i : Nat) (h : a + k < b) (hi : i ≤ k) : ¬ b + 1 = a + i := by omega
theorem ne_lo1 {a b k : Nat} (i : Nat) (h : a + k < b) (hi : i ≤ k) : ¬ a + i = b + 1 := by omega
theorem new_d {X w1 : World} {k : Nat} {l : List Value} {e : TypeId} (hk : X.heap.size = k) (hb : Below (X.alloc (.cells l.toArray e)).drew.heap.size (X.alloc (.cells l.toArray e)).drew w1) : Blk w1 k l e := by
  subst hk; exact Blk.below ((Blk.new X _ _).drew) hb (by show _ < (X.alloc _).heap.size; simp)
theorem new_n {X w1 : World} {l : List Value} {e : TypeId} (hb : Below (X.alloc (.cells l.toArray e)).heap.size (X.alloc (.cells l.toArray e)) w1) : Blk w1 X.heap.size l e :=
  Blk.below (Blk.new X _ _) hb (by show _ < (X.alloc _).heap.size; simp)
section
variable {w : World} {g : Nat} {a b c a' b' c' : Value} {l : List Value} {T : TypeId}
theorem Blk.c0 (h : Blk w g (a :: l) T) : w.cell? ⟨g, 0, none⟩ = some a := by rw [h.cell]; rfl
theorem Blk.c1 (h : Blk w g (a :: b :: l) T) : w.cell? ⟨g, 1, none⟩ = some b := by rw [h.cell]; rfl
theorem Blk.c2 (h : Blk w g (a :: b :: c :: l) T) : w.cell? ⟨g, 2, none⟩ = some c := by rw [h.cell]; rfl
theorem Blk.set3 (h : Blk w g [a, b, c] T) : Blk (((w.setCell ⟨g, 0, none⟩ a').setCell ⟨g, 1, none⟩ b').setCell ⟨g, 2, none⟩ c') g [a', b', c'] T := ((h.set 0 a').set 1 b').set 2 c'
theorem Blk.far3 {h : Nat} (k : Blk w g l T) (hn : g ≠ h) : Blk (((w.setCell ⟨h, 0, none⟩ a).setCell ⟨h, 1, none⟩ b).setCell ⟨h, 2, none⟩ c) g l T := ((k.far (a := ⟨h, 0, none⟩) hn a).far (a := ⟨h, 1, none⟩) hn b).far (a := ⟨h, 2, none⟩) hn c
theorem Below.set3 {B : Nat} {w' : World} (k : Below B w w') (hn : B ≤ g) : Below B w (((w'.setCell ⟨g, 0, none⟩ a).setCell ⟨g, 1, none⟩ b).setCell ⟨g, 2, none⟩ c) := ((k.setCell hn _).setCell hn _).setCell hn _
end
abbrev T3 := Bool × Value × Value
/-- the cells of structs of three -/
def flat : List T3 → List Value
  | [] => []
  | (b, u, v) :: l => .bool b :: u :: v :: flat l
theorem flat_length : ∀ l : List T3, (flat l).length = l.length * 3
  | [] => rfl
  | (b, u, v) :: l => by simp only [flat, List.length_cons, flat_length l]; omega
theorem flat_append : ∀ l m : List T3, flat (l ++ m) = flat l ++ flat m
  | [], m => rfl
  | (b, u, v) :: l, m => by simp only [flat, List.cons_append, flat_append l m]
theorem flat_get : ∀ (l : List T3) (i : Nat) (t : T3), l[i]? = some t → (flat l)[i * 3]? = some (.bool t.1) ∧ (flat l)[i * 3 + 1]? = some t.2.1 ∧ (flat l)[i * 3 + 2]? = some t.2.2
  | [], i, t, h => by simp at h
  | (b, u, v) :: l, 0, t, h => by simp at h; subst h; simp [flat]
  | (b, u, v) :: l, i + 1, t, h => by
    have := flat_get l i t (by simpa using h)
    rw [show (i + 1) * 3 = i * 3 + 1 + 1 + 1 by omega, show i * 3 + 1 + 1 + 1 + 1 = (i * 3 + 1) + 1 + 1 + 1 by omega, show i * 3 + 1 + 1 + 1 + 2 = (i * 3 + 2) + 1 + 1 + 1 by omega]
    simp only [flat, List.getElem?_cons_succ]
    exact this
theorem flat_set : ∀ (l : List T3) (i : Nat) (b : Bool) (u v : Value), i < l.length → (((flat l).set (i * 3) (.bool b)).set (i * 3 + 1) u).set (i * 3 + 2) v = flat (l.set i (b, u, v))
  | [], i, b, u, v, h => by simp at h
  | (b', u', v') :: l, 0, b, u, v, h => by simp [flat]
  | (b', u', v') :: l, i + 1, b, u, v, h => by
    have := flat_set l i b u v (by simpa using h)
    rw [show (i + 1) * 3 = i * 3 + 1 + 1 + 1 by omega, show i * 3 + 1 + 1 + 1 + 1 = (i * 3 + 1) + 1 + 1 + 1 by omega, show i * 3 + 1 + 1 + 1 + 2 = (i * 3 + 2) + 1 + 1 + 1 by omega]
    simp only [flat, List.set_cons_succ, this]
theorem flat_mem {l : List T3} {x : Value} (h : x ∈ flat l) : (∃ b, x = .bool b) ∨ ∃ t, t ∈ l ∧ (x = t.2.1 ∨ x = t.2.2) := by
  induction l with
  | nil => simp [flat] at h
  | cons t l ih =>
    obtain ⟨b, u, v⟩ := t
    simp only [flat, List.mem_cons] at h
    rcases h with h | h | h | h
    · exact .inl ⟨b, h⟩
    · exact .inr ⟨_, List.mem_cons_self .., .inl h⟩
    · exact .inr ⟨_, List.mem_cons_self .., .inr h⟩
    · rcases ih h with h | ⟨t, h1, h2⟩
      · exact .inl h
      · exact .inr ⟨t, List.mem_cons_of_mem _ h1, h2⟩
theorem facts_snoc {P : T3 → Rat → Prop} {ts : List T3} {t : T3} {qs : List Rat} (h : ∀ (i : Nat) (t' : T3) (q : Rat), ts[i]? = some t' → qs[i]? = some q → P t' q) (hq : ∀ q : Rat, qs[ts.length]? = some q → P t q) :
    ∀ (i : Nat) (t' : T3) (q : Rat), (ts ++ [t])[i]? = some t' → qs[i]? = some q → P t' q := by
  intro i t' q ht hqi
  by_cases hi : i < ts.length
  · rw [List.getElem?_append_left hi] at ht; exact h i t' q ht hqi
  · have hle : i < (ts ++ [t]).length := (List.getElem?_eq_some_iff.1 ht).1
    simp at hle
    obtain rfl : i = ts.length := by omega
    simp at ht
    subst ht
    exact hq q hqi
theorem own_below {w w' : World} {base size n : Nat} {e : TypeId} {v : Value} {xs : List Value} (h : w.ownsRow base e size v n xs) (hb : Below w.heap.size w w') : w'.ownsRow base e size v n xs :=
  h.kept (row := none) ⟨hb.os, hb.tape, hb.output, hb.size, fun k hk _ => hb.block k hk⟩ (by cases v.ownBlock <;> simp)
theorem noint_below {w w' : World} {base size n : Nat} {e : TypeId} {v : Value} {xs : List Value} (h : w.ownsRow base e size v n xs) (hn : NoInt w v) (hb : Below w.heap.size w w') : NoInt w' v := hn.below hb (fun g hg => (h.lt g hg).2)
theorem noint_alloc {w : World} {base size n : Nat} {e : TypeId} {v : Value} {xs : List Value} (h : w.ownsRow base e size v n xs) (hn : NoInt w v) (o : Obj) : NoInt (w.alloc o) v := hn.alloc (fun g hg => (h.lt g hg).2) o
/-- a slice of structs of three, the i-th of which is (by Q) the i-th of some -/
def Row3 (Q : World → Bool → Value → Value → Rat → Prop) (w : World) (x : Value) (qs : List Rat) : Prop :=
  ∃ (A : Option Addr) (c : Nat) (ts : List T3), x = .slice A qs.length c ∧ qs.length ≤ c ∧ c ≤ maxLen ∧ ts.length = qs.length ∧
    (qs ≠ [] → ∃ b off, A = some ⟨b, off, none⟩ ∧ b < w.heap.size ∧ ∀ (j : Nat) (u : Value), (flat ts)[j]? = some u → w.cell? ⟨b, off + j, none⟩ = some u) ∧
    ∀ (i : Nat) (t : T3) (q : Rat), ts[i]? = some t → qs[i]? = some q → Q w t.1 t.2.1 t.2.2 q
theorem Row3.below {Q : World → Bool → Value → Value → Rat → Prop} {B : Nat} {w w' : World} {x : Value} {qs : List Rat} (hQ : ∀ b u v q, Q w b u v q → Q w' b u v q) (h : Row3 Q w x qs) (hb : Below B w w') (hB : w.heap.size ≤ B) : Row3 Q w' x qs := by
  obtain ⟨A, c, ts, hx, h1, h2, h3, h4, h5⟩ := h
  refine ⟨A, c, ts, hx, h1, h2, h3, fun hne => ?_, fun i t q ht hq => hQ _ _ _ _ (h5 i t q ht hq)⟩
  obtain ⟨b, off, rfl, hlt, hc⟩ := h4 hne
  exact ⟨b, off, rfl, by have := hb.size; omega, fun j u hu => (hb.cell (p := ⟨b, off + j, none⟩) (by show b < B; omega)).trans (hc j u hu)⟩
theorem Row3.nil (Q : World → Bool → Value → Value → Rat → Prop) (w : World) : Row3 Q w (.slice none 0 0) [] := ⟨none, 0, [], rfl, Nat.le_refl _, Nat.zero_le _, rfl, fun h => absurd rfl h, fun i t q ht => by simp at ht⟩
/-- one of them: its cells and what it is -/
theorem Row3.at {Q : World → Bool → Value → Value → Rat → Prop} {w : World} {x : Value} {qs : List Rat} (h : Row3 Q w x qs) : ∃ A c, x = .slice A qs.length c ∧ qs.length ≤ c ∧ c ≤ maxLen ∧ ∀ i, i < qs.length →
    ∃ b off bb u v, A = some ⟨b, off, none⟩ ∧ b < w.heap.size ∧ w.cell? ⟨b, off + i * 3, none⟩ = some (.bool bb) ∧ w.cell? ⟨b, off + i * 3 + 1, none⟩ = some u ∧ w.cell? ⟨b, off + i * 3 + 2, none⟩ = some v ∧ Q w bb u v (qs.getD i 0) := by
  obtain ⟨A, c, ts, hx, h1, h2, h3, h4, h5⟩ := h
  refine ⟨A, c, hx, h1, h2, fun i hi => ?_⟩
  obtain ⟨b, off, rfl, hlt, hc⟩ := h4 (by rintro rfl; simp at hi)
  have hti : ts[i]? = some (ts[i]'(by omega)) := List.getElem?_eq_getElem _
  have hqi : qs[i]? = some (qs.getD i 0) := by rw [List.getD_eq_getElem?_getD, List.getElem?_eq_getElem hi]; rfl
  obtain ⟨g1, g2, g3⟩ := flat_get ts i _ hti
  exact ⟨b, off, _, _, _, rfl, hlt, hc _ _ g1, by rw [Nat.add_assoc]; exact hc _ _ g2, by rw [Nat.add_assoc]; exact hc _ _ g3, h5 i _ _ hti hqi⟩
/-- a row that is owned, as a slice -/
theorem own_row3 {Q : World → Bool → Value → Value → Rat → Prop} {w : World} {base : Nat} {e : TypeId} {v : Value} {n : Nat} {ts : List T3} {qs : List Rat} (h : w.ownsRow base e 3 v n (flat ts)) (hn : n = qs.length) (hl : ts.length = qs.length)
    (hQ : ∀ (i : Nat) (t : T3) (q : Rat), ts[i]? = some t → qs[i]? = some q → Q w t.1 t.2.1 t.2.2 q) : Row3 Q w v qs := by
  subst hn
  rcases h.2 with ⟨rfl, h0⟩ | ⟨g, cap, cur, rfl, -, hg, hc, hm, -, ht⟩
  · rw [List.eq_nil_of_length_eq_zero h0]; exact Row3.nil Q w
  · refine ⟨_, _, ts, rfl, hc, hm, hl, fun _ => ⟨g, 0, rfl, lt_of_block hg, fun j u hu => ?_⟩, hQ⟩
    have := h.cells (g := g) rfl j u hu
    rw [Nat.zero_add]
    rwa [show (⟨g, 0, none⟩ : Addr).add j = ⟨g, j, none⟩ by unfold Addr.add; split <;> simp_all] at this
/-- a whole block, as a slice -/
theorem Blk.row3 {Q : World → Bool → Value → Value → Rat → Prop} {w : World} {b : Nat} {e : TypeId} {n : Nat} {ts : List T3} {qs : List Rat} (h : Blk w b (flat ts) e) (hn : n = qs.length) (hl : ts.length = qs.length) (hm : n ≤ maxLen)
    (hQ : ∀ (i : Nat) (t : T3) (q : Rat), ts[i]? = some t → qs[i]? = some q → Q w t.1 t.2.1 t.2.2 q) : Row3 Q w (.slice (some ⟨b, 0, none⟩) n n) qs := by
  subst hn
  exact ⟨_, _, ts, rfl, Nat.le_refl _, hm, hl, fun _ => ⟨b, 0, rfl, h.lt, fun j u hu => by rw [Nat.zero_add, h.cell]; exact hu⟩, hQ⟩
end Go.Proofs.Ytjfkniknmkcdcaa.K
