/- Texts of this claim, joined: Kit, Kq, Rk, Pk. -/
import Derived.WalkKit
import Derived.Below
import Derived.OneCell
import Derived.OwnWalk
import Derived.Lib.Hide
import Derived.Deep.LoopGhost
import Derived.Deep.Draws
import Derived.Deep.QuietTactic
import Derived.BigQuiet
import Derived.Laws.AppendOwn
import Derived.Deep.RegionHeld3
import Derived.Test.YtjfkniknmkcdcaaGreatDoorProg
namespace Go.Proofs.YtjfkniknmkcdcaaGreatDoor.K
open Go Go.RowKit

/-- block b holds just these cells, and none is frozen -/
def Blk (w : World) (b : Nat) (l : List Value) (e : TypeId) : Prop := w.heap[b]? = some (.cells l.toArray e (0, 0))

section
variable {w : World} {b : Nat} {l : List Value} {e : TypeId}
theorem Blk.lt (h : Blk w b l e) : b < w.heap.size := lt_of_block h
theorem Blk.cell (h : Blk w b l e) (i : Nat) : w.cell? ⟨b, i, none⟩ = l[i]? := by
  unfold Blk at h
  simp [World.cell?, h]
theorem Blk.frozen (h : Blk w b l e) (i : Nat) : w.frozen? ⟨b, i, none⟩ = false := by
  unfold Blk at h
  simp [World.frozen?, h]
theorem Blk.set (h : Blk w b l e) (i : Nat) (v : Value) : Blk (w.setCell ⟨b, i, none⟩ v) b (l.set i v) e := by
  have hlt := h.lt
  unfold Blk at h ⊢
  have h' : w.heap[b] = .cells l.toArray e (0, 0) := by simpa [Array.getElem?_eq_getElem hlt] using h
  show (w.heap.modify b _)[b]? = _
  rw [Array.getElem?_eq_getElem (by simpa using hlt), Array.getElem_modify_self, h']
  simp
theorem Blk.far (h : Blk w b l e) {a : Addr} (ha : b ≠ a.block) (v : Value) : Blk (w.setCell a v) b l e := by
  unfold Blk at h ⊢
  rw [Below.heap_setCell _ _ _ _ ha]; exact h
theorem Blk.alloc (h : Blk w b l e) (o : Obj) : Blk (w.alloc o) b l e := by
  have := h.lt
  unfold Blk at h ⊢
  rw [Below.heap_alloc _ _ _ this]; exact h
theorem Blk.drew (h : Blk w b l e) : Blk w.drew b l e := h
theorem Blk.below {B : Nat} {w' : World} (h : Blk w b l e) (hb : Below B w w') (hlt : b < B) : Blk w' b l e := (hb.block b hlt).trans h
theorem Blk.drewN (h : Blk w b l e) (n : Nat) : Blk (w.drewN n) b l e := h
theorem Blk.mk (w : World) (b : Nat) (hb : w.heap.size = b) (l : List Value) (e : TypeId) : Blk (w.alloc (.cells l.toArray e)) b l e := by subst hb; exact heap_alloc_new w _
theorem Blk.new (w : World) (l : List Value) (e : TypeId) : Blk (w.alloc (.cells l.toArray e)) w.heap.size l e := heap_alloc_new w _
end

/-- outside the blocks of S (and beyond what there was) nothing has turned -/
structure Fr (S : Nat → Prop) (w w' : World) : Prop where
  os : w'.os = w.os
  tape : w'.tape = w.tape
  output : w'.output = w.output
  size : w.heap.size ≤ w'.heap.size
  block : ∀ k, k < w.heap.size → ¬ S k → w'.heap[k]? = w.heap[k]?
theorem Fr.refl (S : Nat → Prop) (w : World) : Fr S w w := ⟨rfl, rfl, rfl, Nat.le_refl _, fun _ _ _ => rfl⟩
theorem Fr.trans {S : Nat → Prop} {a b c : World} (h : Fr S a b) (k : Fr S b c) : Fr S a c :=
  ⟨k.os.trans h.os, k.tape.trans h.tape, k.output.trans h.output, Nat.le_trans h.size k.size, fun i hi hs => (k.block i (Nat.lt_of_lt_of_le hi h.size) hs).trans (h.block i hi hs)⟩
theorem Fr.mono {S T : Nat → Prop} {a b : World} (h : Fr S a b) (hs : ∀ k, k < a.heap.size → S k → T k) : Fr T a b :=
  ⟨h.os, h.tape, h.output, h.size, fun i hi ht => h.block i hi fun k => ht (hs i hi k)⟩
theorem Fr.of_below {S : Nat → Prop} {B : Nat} {a b : World} (h : Below B a b) (hB : a.heap.size ≤ B) : Fr S a b :=
  ⟨h.os, h.tape, h.output, h.size, fun i hi _ => h.block i (Nat.lt_of_lt_of_le hi hB)⟩
theorem Fr.below {S : Nat → Prop} {B : Nat} {a b : World} (h : Fr S a b) (hS : ∀ k, k < B → ¬ S k) (hB : B ≤ a.heap.size) : Below B a b :=
  ⟨h.os, h.tape, h.output, h.size, fun i hi => h.block i (Nat.lt_of_lt_of_le hi hB) (hS i hi)⟩
theorem Fr.step {S : Nat → Prop} {B : Nat} {a b c : World} (h : Fr S a b) (k : Below B b c) (hB : a.heap.size ≤ B) : Fr S a c :=
  ⟨k.os.trans h.os, k.tape.trans h.tape, k.output.trans h.output, Nat.le_trans h.size k.size, fun i hi hs => (k.block i (Nat.lt_of_lt_of_le hi hB)).trans (h.block i hi hs)⟩
theorem Fr.drew {S : Nat → Prop} {a b : World} (h : Fr S a b) : Fr S a b.drew := ⟨h.os, h.tape, h.output, h.size, h.block⟩
theorem Fr.drewN {S : Nat → Prop} {a b : World} (h : Fr S a b) (n : Nat) : Fr S a (b.drewN n) := ⟨h.os, h.tape, h.output, h.size, h.block⟩
theorem bdn {B : Nat} {a w : World} (h : Below B a w) (n : Nat) : Below B a (w.drewN n) := h.trans ⟨rfl, rfl, rfl, Nat.le_refl _, fun _ _ => rfl⟩
theorem Fr.alloc {S : Nat → Prop} {a b : World} (h : Fr S a b) (o : Obj) : Fr S a (b.alloc o) :=
  ⟨h.os, h.tape, h.output, Nat.le_trans h.size (by simp), fun i hi hs => (Below.heap_alloc b o i (Nat.lt_of_lt_of_le hi h.size)).trans (h.block i hi hs)⟩
theorem Fr.set {S : Nat → Prop} {a b : World} (h : Fr S a b) {p : Addr} (hp : S p.block ∨ a.heap.size ≤ p.block) (v : Value) : Fr S a (b.setCell p v) :=
  ⟨h.os, h.tape, h.output, Nat.le_trans h.size (by simp [World.setCell]), fun i hi hs =>
    (Below.heap_setCell b p v i (by intro e; subst e; rcases hp with hp | hp; exact hs hp; omega)).trans (h.block i hi hs)⟩
theorem Blk.fr {S : Nat → Prop} {w w' : World} {b : Nat} {l : List Value} {e : TypeId} (h : Blk w b l e) (hf : Fr S w w') (hs : ¬ S b) : Blk w' b l e :=
  (hf.block b h.lt hs).trans h

theorem set_set (w : World) (a : Addr) (u v : Value) (ha : a.spot = none) : (w.setCell a u).setCell a v = w.setCell a v := by
  unfold World.setCell
  congr 1
  apply Array.ext_getElem?
  intro i
  simp only [Array.getElem?_modify]
  by_cases h : a.block = i
  · simp only [h, if_true]
    cases w.heap[i]? with
    | none => rfl
    | some o => cases o <;> simp [ha]
  · simp [h]
theorem Blk.set_same {w : World} {b : Nat} {v : Value} {e : TypeId} (h : Blk w b [v] e) : w.setCell ⟨b, 0, none⟩ v = w := by
  have hlt := h.lt
  have h0 : w.heap[b]? = some (.cells #[v] e (0, 0)) := h
  have hh : (w.setCell ⟨b, 0, none⟩ v).heap = w.heap := by
    unfold World.setCell
    apply Array.ext_getElem?
    intro i
    simp only [Array.getElem?_modify]
    by_cases hi : b = i
    · subst hi; simp [h0]
    · simp [hi]
  calc w.setCell ⟨b, 0, none⟩ v = { w with heap := (w.setCell ⟨b, 0, none⟩ v).heap } := rfl
    _ = w := by rw [hh]

theorem madeCells_one (z : Value) (n : Nat) : madeCells #[z] n = (List.replicate n z).toArray := by
  have e : (fun i => (#[z] : Array Value)[i % (#[z] : Array Value).size]!) = fun _ => z := by
    funext i
    show (#[z] : Array Value)[i % 1]! = z
    rw [Nat.mod_one]
    rfl
  unfold madeCells
  rw [e]
  apply Array.ext
  · simp
  · intro i h1 h2
    simp
/-- make([]T, n) of one-celled elements: a new block of zero values. A rule for the walk. -/
theorem mk_run {P : Program} {t e : TypeId} {z : Value} {bytes : Nat} (ht : P.underlying t = some (.slice e)) (hi : (P.info? e).map (fun i => (i.zero, i.size, i.bytes)) = some (some z, 1, bytes))
    (hz : z.cells = #[z]) (kl kc : IntKind) (n : Nat) (hn : n ≤ maxLen) (hb : bytes * n ≤ 281474976710656) {l : List Value} (hl : List.replicate n z = l) :
    ∀ w : World, (Instr.makeSlice t (.int kl (n : Int)) (.int kc (n : Int))).run P w = .ok (.slice (some ⟨w.heap.size, 0, none⟩) n n) (w.alloc (.cells l.toArray e)) := by
  intro w
  subst hl
  obtain ⟨i, h1, h2, h3, h4⟩ := info_parts hi
  unfold maxLen at hn
  have := run_make (P := P) w t e i z ht h1 h2 kl kc (n : Int) (n : Int) (by omega) (by omega) (by rw [h4]; omega) (by omega)
  rw [h3, hz, Nat.mul_one, madeCells_one] at this
  simpa using this

/-- the same, the size spelled as the walk spells it -/
theorem mk_at {P : Program} {t e : TypeId} {z : Value} {bytes : Nat} (ht : P.underlying t = some (.slice e)) (hi : (P.info? e).map (fun i => (i.zero, i.size, i.bytes)) = some (some z, 1, bytes))
    (hz : z.cells = #[z]) (kl kc : IntKind) (N : Int) (n : Nat) (hN : N = n) (hn : n ≤ maxLen) (hb : bytes * n ≤ 281474976710656) {l : List Value} (hl : List.replicate n z = l) :
    ∀ w : World, (Instr.makeSlice t (.int kl N) (.int kc N)).run P w = .ok (.slice (some ⟨w.heap.size, 0, none⟩) n n) (w.alloc (.cells l.toArray e)) := by
  subst hN; exact mk_run ht hi hz kl kc n hn hb hl
/-- ints of a kind as values -/
def vs (k : IntKind) (l : List Int) : List Value := l.map (Value.int k)
theorem vs_get {k : IntKind} {l : List Int} {i : Nat} : (vs k l)[i]? = (l[i]?).map (Value.int k) := by simp [vs]
theorem vs_set {k : IntKind} {l : List Int} {i : Nat} {x : Int} : (vs k l).set i (.int k x) = vs k (l.set i x) := by simp [vs]
theorem vs_replicate {k : IntKind} {n : Nat} {x : Int} : List.replicate n (Value.int k x) = vs k (List.replicate n x) := by simp [vs]
theorem vs_length {k : IntKind} {l : List Int} : (vs k l).length = l.length := by simp [vs]
theorem Blk.at {w : World} {b : Nat} {k : IntKind} {l : List Int} {e : TypeId} (h : Blk w b (vs k l) e) (i : Nat) (hi : i < l.length) : w.cell? ⟨b, i, none⟩ = some (.int k (l.getD i 0)) := by
  rw [h.cell, vs_get]
  simp [hi]
theorem Blk.one {w : World} {b : Nat} {v : Value} {e : TypeId} (h : Blk w b [v] e) : w.cell? ⟨b, 0, none⟩ = some v := by
  rw [h.cell]; rfl
/-- a slice value that reads as these ints -/
def IsInts (k : IntKind) (w : World) (v : Value) (l : List Int) : Prop :=
  ∃ (A : Option Addr) (c : Nat), v = .slice A l.length c ∧ l.length ≤ c ∧ l.length ≤ maxLen ∧
    (l.length ≠ 0 → ∃ b off, A = some ⟨b, off, none⟩ ∧ b < w.heap.size ∧ ∀ i, i < l.length → w.cell? ⟨b, off + i, none⟩ = some (.int k (l.getD i 0)))
theorem IsInts.fr {S : Nat → Prop} {k : IntKind} {w w' : World} {v : Value} {l : List Int} (h : IsInts k w v l) (hf : Fr S w w') (hs : ∀ A n c, v = .slice (some A) n c → ¬ S A.block) : IsInts k w' v l := by
  obtain ⟨A, c, hv, h1, h2, h3⟩ := h
  refine ⟨A, c, hv, h1, h2, fun hne => ?_⟩
  obtain ⟨b, off, rfl, hb, hc⟩ := h3 hne
  have hS : ¬ S b := hs _ _ _ hv
  exact ⟨b, off, rfl, Nat.lt_of_lt_of_le hb hf.size, fun i hi => (World.cell?_of_block (w := w) (hf.block b hb hS)).trans (hc i hi)⟩
theorem IsInts.below {B : Nat} {k : IntKind} {w w' : World} {v : Value} {l : List Int} (h : IsInts k w v l) (hb : Below B w w') (hB : w.heap.size ≤ B) : IsInts k w' v l :=
  h.fr (S := fun _ => False) (Fr.of_below hb hB) (fun _ _ _ _ h => h)
theorem Blk.ints {w : World} {b : Nat} {k : IntKind} {l : List Int} {e : TypeId} {n : Nat} (h : Blk w b (vs k l) e) (hn : n = l.length) (hm : n ≤ maxLen) : IsInts k w (.slice (some ⟨b, 0, none⟩) n n) l := by
  subst hn
  exact ⟨_, _, rfl, Nat.le_refl _, hm, fun _ => ⟨b, 0, rfl, h.lt, fun i hi => by rw [Nat.zero_add]; exact h.at i hi⟩⟩
/-- a slice that lies in blocks from B on, if anywhere -/
def NewV (B : Nat) (v : Value) : Prop := ∀ A n c, v = .slice (some A) n c → B ≤ A.block
theorem NewV.mono {B C : Nat} {v : Value} (h : NewV B v) (hc : C ≤ B) : NewV C v := fun A n c e => Nat.le_trans hc (h A n c e)
theorem own_new {w : World} {base size : Nat} {e : TypeId} {v : Value} {n : Nat} {l : List Value} (h : w.ownsRow base e size v n l) : NewV base v := by
  intro A n c e
  subst e
  exact (h.lt A.block rfl).1
theorem getD_mem (l : List Int) (i : Nat) (h : i < l.length) : l.getD i 0 ∈ l := by
  rw [List.getD_eq_getElem?_getD, List.getElem?_eq_getElem h]; exact List.getElem_mem h
/-- a store into a block that holds no ints (a box of a struct) -/
theorem IsInts.box {k : IntKind} {w : World} {v : Value} {l : List Int} {g : Nat} {cells : List Value} {T : TypeId} (h : IsInts k w v l) (hg : Blk w g cells T) (hno : ∀ x, x ∈ cells → ∀ q, x ≠ .int k q) (j : Nat) (u : Value) : IsInts k (w.setCell ⟨g, j, none⟩ u) v l := by
  obtain ⟨A, c, hv, h1, h2, h3⟩ := h
  refine ⟨A, c, hv, h1, h2, fun hne => ?_⟩
  obtain ⟨b, off, rfl, hb, hc⟩ := h3 hne
  have hbg : b ≠ g := by
    rintro rfl
    have h4 := hc 0 (by omega)
    rw [hg.cell] at h4
    exact hno _ (List.mem_of_getElem? h4) _ rfl
  refine ⟨b, off, rfl, by simpa [World.setCell] using hb, fun i hi => ?_⟩
  exact (World.cell?_of_block (w := w) (Below.heap_setCell w ⟨g, j, none⟩ u b hbg)).trans (hc i hi)
theorem IsInts.nil (k : IntKind) (w : World) : IsInts k w (.slice none 0 0) [] := ⟨none, 0, rfl, Nat.le_refl _, Nat.zero_le _, fun h => absurd rfl h⟩
theorem own_ints {k : IntKind} {w : World} {base : Nat} {e : TypeId} {v : Value} {n : Nat} {l : List Int} (h : w.ownsRow base e 1 v n (vs k l)) (hn : n = l.length) : IsInts k w v l := by
  obtain ⟨h1, h2⟩ := h
  subst hn
  rcases h2 with ⟨rfl, h0⟩ | ⟨g, cap, cur, rfl, hb, hg, hc, hm, hs, ht⟩
  · rw [List.eq_nil_of_length_eq_zero h0]; exact IsInts.nil k w
  · refine ⟨_, _, rfl, hc, Nat.le_trans hc hm, fun _ => ⟨g, 0, rfl, lt_of_block hg, fun i hi => ?_⟩⟩
    have : cur.toList[i]? = some (.int k (l.getD i 0)) := by
      have := congrArg (·[i]?) ht
      simp only [Nat.mul_one] at this
      rw [List.getElem?_take_of_lt hi, vs_get] at this
      rw [this]; simp [hi]
    simp only [World.cell?, hg, Nat.zero_add]
    simpa using this
theorem emod_tmod (n m : Int) (hm : 1 ≤ m) : n % m = (if n.tmod m < 0 then n.tmod m + m else n.tmod m) ∧ -m < n.tmod m ∧ n.tmod m < m := by
  have hlt : ∀ a : Int, 0 ≤ a % m ∧ a % m < m := fun a => ⟨Int.emod_nonneg _ (by omega), Int.emod_lt_of_pos _ (by omega)⟩
  by_cases h : 0 ≤ n
  · rw [Int.tmod_eq_emod_of_nonneg h]
    have := hlt n
    rw [if_neg (by omega)]
    omega
  · have e : n.tmod m = -((-n) % m) := by
      rw [← Int.tmod_eq_emod_of_nonneg (show 0 ≤ -n by omega), Int.neg_tmod, Int.neg_neg]
    rw [e]
    have h1 := hlt (-n)
    have h2 := hlt n
    have h3 : n % m = (-((-n) % m)) % m := by
      have h4 : n = -((-n) % m) + m * (-((-n) / m)) := by
        have := Int.emod_add_mul_ediv (-n) m
        rw [Int.mul_neg]; omega
      conv => lhs; rw [h4]
      rw [Int.add_mul_emod_self_left]
    by_cases h0 : (-n) % m = 0
    · rw [h0] at h3 ⊢
      rw [if_neg (by omega)]
      simp at h3
      simp [h3]; omega
    · rw [if_pos (by omega)]
      have h5 : (-((-n) % m)) % m = (-((-n) % m) + m) % m := by simp
      rw [h3, h5, Int.emod_eq_of_lt (by omega) (by omega)]
      omega
end Go.Proofs.YtjfkniknmkcdcaaGreatDoor.K

namespace Go.Proofs.YtjfkniknmkcdcaaGreatDoor.K
open Go Go.RowKit

/-- no cell of a slice's block is an int -/
def NoInt (w : World) (v : Value) : Prop := ∀ g, v.ownBlock = some g → ∀ cur e f, w.heap[g]? = some (.cells cur e f) → ∀ x, x ∈ cur.toList → ∀ k q, x ≠ .int k q
theorem NoInt.nil (w : World) : NoInt w (.slice none 0 0) := fun g hg => by simp [Value.ownBlock] at hg
theorem NoInt.grown {w w' : World} {v : Value} {row : Option Nat} (h : NoInt w v) (hg : w.grownBy w' row) (hlt : ∀ g, v.ownBlock = some g → g < w.heap.size) (hne : v.ownBlock = none ∨ v.ownBlock ≠ row) : NoInt w' v := by
  intro g hv cur e f hc
  rw [hg.block g (hlt g hv) (by rcases hne with h | h; rw [h] at hv; cases hv; rwa [hv] at h)] at hc
  exact h g hv cur e f hc
theorem NoInt.below {w w' : World} {v : Value} {B : Nat} (h : NoInt w v) (hb : Below B w w') (hlt : ∀ g, v.ownBlock = some g → g < B) : NoInt w' v := by
  intro g hv cur e f hc
  rw [hb.block g (hlt g hv)] at hc
  exact h g hv cur e f hc
theorem NoInt.alloc {w : World} {v : Value} (h : NoInt w v) (hlt : ∀ g, v.ownBlock = some g → g < w.heap.size) (o : Obj) : NoInt (w.alloc o) v :=
  h.grown (World.grownBy_alloc w o none) hlt (by cases v.ownBlock <;> simp)

theorem mem_zeroCells {z : Array Value} {n : Nat} {x : Value} (hz : ∀ y, y ∈ z.toList → ∀ k q, y ≠ .int k q) (h : x ∈ (Builtin.zeroCells z n).toList) : ∀ k q, x ≠ .int k q := by
  rw [Array.mem_toList_iff] at h
  unfold Builtin.zeroCells at h
  rw [Array.mem_map] at h
  obtain ⟨i, hi, rfl⟩ := h
  rw [Array.mem_range] at hi
  have hs : 0 < z.size := by
    rcases Nat.eq_zero_or_pos z.size with h0 | h0
    · rw [h0, Nat.mul_zero] at hi; omega
    · exact h0
  have hm : i % z.size < z.size := Nat.mod_lt _ hs
  rw [getElem!_pos z (i % z.size) hm]
  exact hz _ (Array.mem_toList_iff.2 (Array.getElem_mem hm))

section
variable {P : Program} (w : World)
/-- append of some to a row of its own that holds no ints: the row holds none behind it, either -/
theorem run_append_noint (base : Nat) (t ty e : TypeId) (i : TypeInfo) (z : Value) (size bytes : Nat) (ht : P.underlying t = some (.slice e)) (hi : P.info? e = some i) (hz : i.zero = some z)
    (hsize : i.size = size) (hby : i.bytes = bytes) (hzs : z.cells.size = size) (hsz : 0 < size)
    (v : Value) (n : Nat) (xs : List Value) (hown : w.ownsRow base e size v n xs) (hno : NoInt w v) (hzn : ∀ y, y ∈ z.cells.toList → ∀ k q, y ≠ .int k q)
    (a : Addr) (m c : Nat) (news : List Value) (hl : news.length = m * size) (hnews : ∀ j u, news[j]? = some u → w.cell? (a.add j) = some u) (h1 : ∀ u ∈ news, u.oneCell' = true)
    (hnn : ∀ u, u ∈ news → ∀ k q, u ≠ .int k q) (hm : 0 < m)
    (h63 : n + m ≤ maxLen) (hbytes : (n + m) * bytes ≤ 140737488355328) (hbase : base ≤ w.heap.size) :
    ∃ v' w', (Builtin.append_ #[t, t] ty #[v, .slice (some a) m c]).run P w = .ok v' w' ∧ w'.ownsRow base e size v' (n + m) (xs ++ news) ∧ w.grownBy w' v.ownBlock ∧ NoInt w' v' := by
  obtain ⟨v', w', hr, ho, hg, -⟩ := run_append_own (P := P) w base t ty e i z size bytes ht hi hz hsize hby hzs hsz v n xs hown a m c news hl hnews h1 h63 hbytes hbase
  refine ⟨v', w', hr, ho, hg, ?_⟩
  subst hsize hby
  have hsmall : n + m ≤ 9223372036854775807 := by simp only [maxLen] at h63; omega
  rcases hown.2 with ⟨rfl, rfl⟩ | ⟨g, cap, cur, rfl, hbg, hgg, hnc, hcm, hcs, htake⟩
  · have hr2 := run_append_nil (P := P) w t ty e i z ht hi hz a m c news hl hnews hm (by omega) (by have hb := hbytes; simp only [Nat.zero_add] at hb; omega)
    rw [hr2] at hr
    injection hr with e1 e2
    subst e1 e2
    intro g hv cur e' f hc x hx
    simp only [Value.ownBlock, Option.some.injEq] at hv
    subst hv
    have := heap_alloc_new w.drew (.cells (news.toArray ++ Builtin.zeroCells z.cells (grownCap w m 0 e - m)) e)
    rw [show w.drew.heap.size = w.heap.size from rfl] at this
    rw [this] at hc
    injection hc with hc
    injection hc with h2 h3 h4
    subst h2
    rw [Array.toList_append, List.mem_append] at hx
    rcases hx with hx | hx
    · exact hnn x hx
    · exact mem_zeroCells hzn hx
  · have hnc2 : ∀ y, y ∈ cur.toList → ∀ k q, y ≠ .int k q := hno g rfl cur e (0, 0) hgg
    by_cases hroom : n + m ≤ cap
    · have hfit : n * i.size + news.length ≤ cur.size := by rw [hl, hcs, ← Nat.add_mul]; exact Nat.mul_le_mul_right _ hroom
      have hr2 := run_append_room (P := P) w t ty e i ht hi g n cap cur hgg a m c news hl hnews h1 hroom hfit
      rw [hr2] at hr
      injection hr with e1 e2
      subst e1 e2
      intro g' hv cur' e' f hc x hx
      simp only [Value.ownBlock, Option.some.injEq] at hv
      subst hv
      rw [setRow_heap w g cur _ e _ hgg] at hc
      injection hc with hc
      injection hc with h2 h3 h4
      subst h2
      simp only [List.mem_append] at hx
      rcases hx with (hx | hx) | hx
      · exact hnc2 x (List.mem_of_mem_take hx)
      · exact hnn x hx
      · exact hnc2 x (List.mem_of_mem_drop hx)
    · have holds : ∀ j u, xs[j]? = some u → w.cell? ((⟨g, 0, none⟩ : Addr).add j) = some u := hown.cells (g := g) rfl
      have hr2 := run_append_grow (P := P) w t ty e i z ht hi hz ⟨g, 0, none⟩ n cap xs hown.1 holds a m c news hl hnews (by omega) (by omega) (growslice_fits (by omega) hbytes)
      rw [hr2] at hr
      injection hr with e1 e2
      subst e1 e2
      intro g' hv cur' e' f hc x hx
      simp only [Value.ownBlock, Option.some.injEq] at hv
      subst hv
      have h5 := heap_alloc_new w.drew (.cells (xs.toArray ++ news.toArray ++ Builtin.zeroCells z.cells (grownCap w (n + m) cap e - (n + m))) e)
      rw [show w.drew.heap.size = w.heap.size from rfl] at h5
      rw [h5] at hc
      injection hc with hc
      injection hc with h2 h3 h4
      subst h2
      rw [Array.toList_append, Array.toList_append, List.mem_append, List.mem_append] at hx
      rcases hx with (hx | hx) | hx
      · rw [← htake] at hx; exact hnc2 x (List.mem_of_mem_take hx)
      · exact hnn x hx
      · exact mem_zeroCells hzn hx
theorem wp_append_noint {o : Oper} {a : Act} {K : Act → World → Prop} {Q : Exit → Act → World → Prop} (s x : Operand) (t : TypeId)
    (ho : o.op = .call { callee := .builtin .append, args := #[s, x], argTypes := #[t, t] })
    (base : Nat) (e : TypeId) (i : TypeInfo) (z : Value) (size bytes : Nat) (ht : P.underlying t = some (.slice e)) (hi : P.info? e = some i) (hz : i.zero = some z)
    (hsize : i.size = size) (hby : i.bytes = bytes) (hzs : z.cells.size = size) (hsz : 0 < size)
    (v : Value) (n : Nat) (xs : List Value) (hs : a.eval s = v) (hown : w.ownsRow base e size v n xs) (hno : NoInt w v) (hzn : ∀ y, y ∈ z.cells.toList → ∀ k q, y ≠ .int k q)
    (ad : Addr) (m c : Nat) (news : List Value) (hx : a.eval x = .slice (some ad) m c) (hl : news.length = m * size) (hnews : ∀ j u, news[j]? = some u → w.cell? (ad.add j) = some u) (h1 : ∀ u ∈ news, u.oneCell' = true)
    (hnn : ∀ u, u ∈ news → ∀ k q, u ≠ .int k q) (hm : 0 < m)
    (h63 : n + m ≤ maxLen) (hbytes : (n + m) * bytes ≤ 140737488355328) (hbase : base ≤ w.heap.size)
    (h : ∀ v' w', w'.ownsRow base e size v' (n + m) (xs ++ news) → w.grownBy w' v.ownBlock → NoInt w' v' → K (a.put o.dst v') w') : o.wp P a w K Q := by
  obtain ⟨v', w', hr, h2, h3, h4⟩ := run_append_noint (P := P) w base t o.type e i z size bytes ht hi hz hsize hby hzs hsz v n xs hown hno hzn ad m c news hl hnews h1 hnn hm h63 hbytes hbase
  unfold Oper.wp execOp
  simp only [ho, resolve, invoke, builtin, Sem.run_bind, Sem.run_pure, Result.andThen_ok, List.map_toArray, List.map_cons, List.map_nil, hs, hx, hr]
  exact h v' w' h2 h3 h4
end
/-- the law of 'out = append(out, ..)' for the walk -/
theorem wpList_append_noint {P : Program} {w : World} {ops : Array Oper} {rest : List Oper} {o : Oper} {a : Act} {Q : Exit → Act → World → Prop} (hgd : o.guard = none) (s x : Operand) (t : TypeId)
    (ho : o.op = .call { callee := .builtin .append, args := #[s, x], argTypes := #[t, t] })
    (base : Nat) (e : TypeId) (i : TypeInfo) (z : Value) (size bytes : Nat) (ht : P.underlying t = some (.slice e)) (hi : P.info? e = some i) (hz : i.zero = some z)
    (hsize : i.size = size) (hby : i.bytes = bytes) (hzs : z.cells.size = size) (hsz : 0 < size)
    (v : Value) (n : Nat) (xs : List Value) (hs : a.eval s = v) (hown : w.ownsRow base e size v n xs) (hno : NoInt w v) (hzn : ∀ y, y ∈ z.cells.toList → ∀ k q, y ≠ .int k q)
    (ad : Addr) (m c : Nat) (news : List Value) (hx : a.eval x = .slice (some ad) m c) (hl : news.length = m * size) (hnews : ∀ j u, news[j]? = some u → w.cell? (ad.add j) = some u) (h1 : ∀ u ∈ news, u.oneCell' = true)
    (hnn : ∀ u, u ∈ news → ∀ k q, u ≠ .int k q) (hm : 0 < m)
    (h63 : n + m ≤ maxLen) (hbytes : (n + m) * bytes ≤ 140737488355328) (hbase : base ≤ w.heap.size)
    (h : ∀ v' w', w'.ownsRow base e size v' (n + m) (xs ++ news) → w.grownBy w' v.ownBlock → NoInt w' v' → wpList P ops Q rest (a.put o.dst v') w') : wpList P ops Q (o :: rest) a w :=
  wpList_plain hgd fun _ hK => wp_append_noint w s x t ho base e i z size bytes ht hi hz hsize hby hzs hsz v n xs hs hown hno hzn ad m c news hx hl hnews h1 hnn hm h63 hbytes hbase fun v' w' h2 h3 h4 => hK _ _ (h v' w' h2 h3 h4)

/-- ints that lie elsewhere are as they were -/
theorem IsInts.grown {k : IntKind} {w w' : World} {u v : Value} {l : List Int} {base size n : Nat} {e : TypeId} {xs : List Value} (h : IsInts k w u l) (hown : w.ownsRow base e size v n xs) (hno : NoInt w v) (hg : w.grownBy w' v.ownBlock) : IsInts k w' u l := by
  obtain ⟨A, c, hv, h1, h2, h3⟩ := h
  refine ⟨A, c, hv, h1, h2, fun hne => ?_⟩
  obtain ⟨b, off, rfl, hb, hc⟩ := h3 hne
  have hbv : some b ≠ v.ownBlock := by
    intro hbv
    have h4 := hc 0 (by omega)
    rcases hown.2 with ⟨rfl, -⟩ | ⟨g, cap, cur, rfl, -, hgg, -⟩
    · simp [Value.ownBlock] at hbv
    · simp only [Value.ownBlock, Option.some.injEq] at hbv
      subst hbv
      simp only [World.cell?, hgg] at h4
      exact hno b rfl cur e (0, 0) hgg _ (Array.mem_toList_iff.2 (Array.mem_of_getElem? h4)) _ _ rfl
  exact ⟨b, off, rfl, Nat.lt_of_lt_of_le hb hg.size, fun i hi => hg.cell (hc i hi) hbv⟩
theorem IsInts.drew {k : IntKind} {w : World} {u : Value} {l : List Int} (h : IsInts k w u l) : IsInts k w.drew u l := h
theorem Below.grown {B : Nat} {w w1 w' : World} {row : Option Nat} (h : Below B w w1) (hg : w1.grownBy w' row) (hrow : ∀ k, row = some k → B ≤ k) (hB : B ≤ w1.heap.size) : Below B w w' :=
  h.trans ⟨hg.os, hg.tape, hg.output, hg.size, fun i hi => hg.block i (by omega) (fun e => by have := hrow i e.symm; omega)⟩

theorem bel_step {X Y Z : World} (hb : Below Y.heap.size Y Z) (hy : Below X.heap.size X Y) : Below X.heap.size X Z := hy.trans (hb.mono hy.size)
theorem Below.alloc' {X Y : World} (h : Below X.heap.size X Y) (o : Obj) : Below X.heap.size X (Y.alloc o) := h.alloc h.size o
theorem ne_hi {a b k : Nat} (i : Nat) (h : a + k < b) (hi : i ≤ k) : ¬ b = a + i := by omega
theorem ne_lo {a b k : Nat} (i : Nat) (h : a + k < b) (hi : i ≤ k) : ¬ a + i = b := by omega
theorem ne_hi1 {a b k : Nat} (i : Nat) (h : a + k < b) (hi : i ≤ k) : ¬ b + 1 = a + i := by omega
theorem ne_lo1 {a b k : Nat} (i : Nat) (h : a + k < b) (hi : i ≤ k) : ¬ a + i = b + 1 := by omega
theorem new_d {X w1 : World} {k : Nat} {l : List Value} {e : TypeId} (hk : X.heap.size = k) (hb : Below (X.alloc (.cells l.toArray e)).drew.heap.size (X.alloc (.cells l.toArray e)).drew w1) : Blk w1 k l e := by
  subst hk; exact Blk.below ((Blk.new X _ _).drew) hb (by show _ < (X.alloc _).heap.size; simp)
theorem new_n {X w1 : World} {l : List Value} {e : TypeId} (hb : Below (X.alloc (.cells l.toArray e)).heap.size (X.alloc (.cells l.toArray e)) w1) : Blk w1 X.heap.size l e :=
  Blk.below (Blk.new X _ _) hb (by show _ < (X.alloc _).heap.size; simp)
section
variable {w : World} {g : Nat} {a b c a' b' c' : Value} {l : List Value} {T : TypeId}
theorem Blk.c0 (h : Blk w g (a :: l) T) : w.cell? ⟨g, 0, none⟩ = some a := by rw [h.cell]; rfl
theorem Blk.c1 (h : Blk w g (a :: b :: l) T) : w.cell? ⟨g, 1, none⟩ = some b := by rw [h.cell]; rfl
theorem Blk.c2 (h : Blk w g (a :: b :: c :: l) T) : w.cell? ⟨g, 2, none⟩ = some c := by rw [h.cell]; rfl
theorem Blk.set3 (h : Blk w g [a, b, c] T) : Blk (((w.setCell ⟨g, 0, none⟩ a').setCell ⟨g, 1, none⟩ b').setCell ⟨g, 2, none⟩ c') g [a', b', c'] T := ((h.set 0 a').set 1 b').set 2 c'
theorem Blk.far3 {h : Nat} (k : Blk w g l T) (hn : g ≠ h) : Blk (((w.setCell ⟨h, 0, none⟩ a).setCell ⟨h, 1, none⟩ b).setCell ⟨h, 2, none⟩ c) g l T := ((k.far (a := ⟨h, 0, none⟩) hn a).far (a := ⟨h, 1, none⟩) hn b).far (a := ⟨h, 2, none⟩) hn c
theorem Below.set3 {B : Nat} {w' : World} (k : Below B w w') (hn : B ≤ g) : Below B w (((w'.setCell ⟨g, 0, none⟩ a).setCell ⟨g, 1, none⟩ b).setCell ⟨g, 2, none⟩ c) := ((k.setCell hn _).setCell hn _).setCell hn _
end
abbrev T3 := Bool × Value × Value
/-- the cells of structs of three -/
def flat : List T3 → List Value
  | [] => []
  | (b, u, v) :: l => .bool b :: u :: v :: flat l
theorem flat_length : ∀ l : List T3, (flat l).length = l.length * 3
  | [] => rfl
  | (b, u, v) :: l => by simp only [flat, List.length_cons, flat_length l]; omega
theorem flat_append : ∀ l m : List T3, flat (l ++ m) = flat l ++ flat m
  | [], m => rfl
  | (b, u, v) :: l, m => by simp only [flat, List.cons_append, flat_append l m]
theorem flat_get : ∀ (l : List T3) (i : Nat) (t : T3), l[i]? = some t → (flat l)[i * 3]? = some (.bool t.1) ∧ (flat l)[i * 3 + 1]? = some t.2.1 ∧ (flat l)[i * 3 + 2]? = some t.2.2
  | [], i, t, h => by simp at h
  | (b, u, v) :: l, 0, t, h => by simp at h; subst h; simp [flat]
  | (b, u, v) :: l, i + 1, t, h => by
    have := flat_get l i t (by simpa using h)
    rw [show (i + 1) * 3 = i * 3 + 1 + 1 + 1 by omega, show i * 3 + 1 + 1 + 1 + 1 = (i * 3 + 1) + 1 + 1 + 1 by omega, show i * 3 + 1 + 1 + 1 + 2 = (i * 3 + 2) + 1 + 1 + 1 by omega]
    simp only [flat, List.getElem?_cons_succ]
    exact this
theorem flat_set : ∀ (l : List T3) (i : Nat) (b : Bool) (u v : Value), i < l.length → (((flat l).set (i * 3) (.bool b)).set (i * 3 + 1) u).set (i * 3 + 2) v = flat (l.set i (b, u, v))
  | [], i, b, u, v, h => by simp at h
  | (b', u', v') :: l, 0, b, u, v, h => by simp [flat]
  | (b', u', v') :: l, i + 1, b, u, v, h => by
    have := flat_set l i b u v (by simpa using h)
    rw [show (i + 1) * 3 = i * 3 + 1 + 1 + 1 by omega, show i * 3 + 1 + 1 + 1 + 1 = (i * 3 + 1) + 1 + 1 + 1 by omega, show i * 3 + 1 + 1 + 1 + 2 = (i * 3 + 2) + 1 + 1 + 1 by omega]
    simp only [flat, List.set_cons_succ, this]
theorem flat_mem {l : List T3} {x : Value} (h : x ∈ flat l) : (∃ b, x = .bool b) ∨ ∃ t, t ∈ l ∧ (x = t.2.1 ∨ x = t.2.2) := by
  induction l with
  | nil => simp [flat] at h
  | cons t l ih =>
    obtain ⟨b, u, v⟩ := t
    simp only [flat, List.mem_cons] at h
    rcases h with h | h | h | h
    · exact .inl ⟨b, h⟩
    · exact .inr ⟨_, List.mem_cons_self .., .inl h⟩
    · exact .inr ⟨_, List.mem_cons_self .., .inr h⟩
    · rcases ih h with h | ⟨t, h1, h2⟩
      · exact .inl h
      · exact .inr ⟨t, List.mem_cons_of_mem _ h1, h2⟩
theorem facts_snoc {P : T3 → Rat → Prop} {ts : List T3} {t : T3} {qs : List Rat} (h : ∀ (i : Nat) (t' : T3) (q : Rat), ts[i]? = some t' → qs[i]? = some q → P t' q) (hq : ∀ q : Rat, qs[ts.length]? = some q → P t q) :
    ∀ (i : Nat) (t' : T3) (q : Rat), (ts ++ [t])[i]? = some t' → qs[i]? = some q → P t' q := by
  intro i t' q ht hqi
  by_cases hi : i < ts.length
  · rw [List.getElem?_append_left hi] at ht; exact h i t' q ht hqi
  · have hle : i < (ts ++ [t]).length := (List.getElem?_eq_some_iff.1 ht).1
    simp at hle
    obtain rfl : i = ts.length := by omega
    simp at ht
    subst ht
    exact hq q hqi
theorem own_below {w w' : World} {base size n : Nat} {e : TypeId} {v : Value} {xs : List Value} (h : w.ownsRow base e size v n xs) (hb : Below w.heap.size w w') : w'.ownsRow base e size v n xs :=
  h.kept (row := none) ⟨hb.os, hb.tape, hb.output, hb.size, fun k hk _ => hb.block k hk⟩ (by cases v.ownBlock <;> simp)
theorem noint_below {w w' : World} {base size n : Nat} {e : TypeId} {v : Value} {xs : List Value} (h : w.ownsRow base e size v n xs) (hn : NoInt w v) (hb : Below w.heap.size w w') : NoInt w' v := hn.below hb (fun g hg => (h.lt g hg).2)
theorem noint_alloc {w : World} {base size n : Nat} {e : TypeId} {v : Value} {xs : List Value} (h : w.ownsRow base e size v n xs) (hn : NoInt w v) (o : Obj) : NoInt (w.alloc o) v := hn.alloc (fun g hg => (h.lt g hg).2) o
/-- a slice of structs of three, the i-th of which is (by Q) the i-th of some -/
def Row3 (Q : World → Bool → Value → Value → Rat → Prop) (w : World) (x : Value) (qs : List Rat) : Prop :=
  ∃ (A : Option Addr) (c : Nat) (ts : List T3), x = .slice A qs.length c ∧ qs.length ≤ c ∧ c ≤ maxLen ∧ ts.length = qs.length ∧
    (qs ≠ [] → ∃ b off, A = some ⟨b, off, none⟩ ∧ b < w.heap.size ∧ ∀ (j : Nat) (u : Value), (flat ts)[j]? = some u → w.cell? ⟨b, off + j, none⟩ = some u) ∧
    ∀ (i : Nat) (t : T3) (q : Rat), ts[i]? = some t → qs[i]? = some q → Q w t.1 t.2.1 t.2.2 q
theorem Row3.below {Q : World → Bool → Value → Value → Rat → Prop} {B : Nat} {w w' : World} {x : Value} {qs : List Rat} (hQ : ∀ b u v q, Q w b u v q → Q w' b u v q) (h : Row3 Q w x qs) (hb : Below B w w') (hB : w.heap.size ≤ B) : Row3 Q w' x qs := by
  obtain ⟨A, c, ts, hx, h1, h2, h3, h4, h5⟩ := h
  refine ⟨A, c, ts, hx, h1, h2, h3, fun hne => ?_, fun i t q ht hq => hQ _ _ _ _ (h5 i t q ht hq)⟩
  obtain ⟨b, off, rfl, hlt, hc⟩ := h4 hne
  exact ⟨b, off, rfl, by have := hb.size; omega, fun j u hu => (hb.cell (p := ⟨b, off + j, none⟩) (by show b < B; omega)).trans (hc j u hu)⟩
theorem Row3.nil (Q : World → Bool → Value → Value → Rat → Prop) (w : World) : Row3 Q w (.slice none 0 0) [] := ⟨none, 0, [], rfl, Nat.le_refl _, Nat.zero_le _, rfl, fun h => absurd rfl h, fun i t q ht => by simp at ht⟩
/-- one of them: its cells and what it is -/
theorem Row3.at {Q : World → Bool → Value → Value → Rat → Prop} {w : World} {x : Value} {qs : List Rat} (h : Row3 Q w x qs) : ∃ A c, x = .slice A qs.length c ∧ qs.length ≤ c ∧ c ≤ maxLen ∧ ∀ i, i < qs.length →
    ∃ b off bb u v, A = some ⟨b, off, none⟩ ∧ b < w.heap.size ∧ w.cell? ⟨b, off + i * 3, none⟩ = some (.bool bb) ∧ w.cell? ⟨b, off + i * 3 + 1, none⟩ = some u ∧ w.cell? ⟨b, off + i * 3 + 2, none⟩ = some v ∧ Q w bb u v (qs.getD i 0) := by
  obtain ⟨A, c, ts, hx, h1, h2, h3, h4, h5⟩ := h
  refine ⟨A, c, hx, h1, h2, fun i hi => ?_⟩
  obtain ⟨b, off, rfl, hlt, hc⟩ := h4 (by rintro rfl; simp at hi)
  have hti : ts[i]? = some (ts[i]'(by omega)) := List.getElem?_eq_getElem _
  have hqi : qs[i]? = some (qs.getD i 0) := by rw [List.getD_eq_getElem?_getD, List.getElem?_eq_getElem hi]; rfl
  obtain ⟨g1, g2, g3⟩ := flat_get ts i _ hti
  exact ⟨b, off, _, _, _, rfl, hlt, hc _ _ g1, by rw [Nat.add_assoc]; exact hc _ _ g2, by rw [Nat.add_assoc]; exact hc _ _ g3, h5 i _ _ hti hqi⟩
/-- a row that is owned, as a slice -/
theorem own_row3 {Q : World → Bool → Value → Value → Rat → Prop} {w : World} {base : Nat} {e : TypeId} {v : Value} {n : Nat} {ts : List T3} {qs : List Rat} (h : w.ownsRow base e 3 v n (flat ts)) (hn : n = qs.length) (hl : ts.length = qs.length)
    (hQ : ∀ (i : Nat) (t : T3) (q : Rat), ts[i]? = some t → qs[i]? = some q → Q w t.1 t.2.1 t.2.2 q) : Row3 Q w v qs := by
  subst hn
  rcases h.2 with ⟨rfl, h0⟩ | ⟨g, cap, cur, rfl, -, hg, hc, hm, -, ht⟩
  · rw [List.eq_nil_of_length_eq_zero h0]; exact Row3.nil Q w
  · refine ⟨_, _, ts, rfl, hc, hm, hl, fun _ => ⟨g, 0, rfl, lt_of_block hg, fun j u hu => ?_⟩, hQ⟩
    have := h.cells (g := g) rfl j u hu
    rw [Nat.zero_add]
    rwa [show (⟨g, 0, none⟩ : Addr).add j = ⟨g, j, none⟩ by unfold Addr.add; split <;> simp_all] at this
/-- a whole block, as a slice -/
theorem Blk.row3 {Q : World → Bool → Value → Value → Rat → Prop} {w : World} {b : Nat} {e : TypeId} {n : Nat} {ts : List T3} {qs : List Rat} (h : Blk w b (flat ts) e) (hn : n = qs.length) (hl : ts.length = qs.length) (hm : n ≤ maxLen)
    (hQ : ∀ (i : Nat) (t : T3) (q : Rat), ts[i]? = some t → qs[i]? = some q → Q w t.1 t.2.1 t.2.2 q) : Row3 Q w (.slice (some ⟨b, 0, none⟩) n n) qs := by
  subst hn
  exact ⟨_, _, ts, rfl, Nat.le_refl _, hm, hl, fun _ => ⟨b, 0, rfl, h.lt, fun j u hu => by rw [Nat.zero_add, h.cell]; exact hu⟩, hQ⟩
end Go.Proofs.YtjfkniknmkcdcaaGreatDoor.K

namespace Go.Proofs.YtjfkniknmkcdcaaGreatDoor.K
open Go Go.RowKit

theorem run_append_zero {P : Program} (w : World) (t ty e : TypeId) (i : TypeInfo) (ht : P.underlying t = some (.slice e)) (hi : P.info? e = some i) (A B : Option Addr) (n c d : Nat) (h : n ≤ c) :
    (Builtin.append_ #[t, t] ty #[.slice A n c, .slice B 0 d]).run P w = .ok (.slice A n c) w := by
  have hf : (Builtin.firstCells i.size 0 (.slice B 0 d)).run P w = .ok #[] w := by
    cases B with
    | none => exact run_firstCells_none w _ _ _ _
    | some b => exact run_firstCells_some w i.size 0 b 0 d [] (by simp) (by simp)
  cases A with
  | none => simp [Builtin.append_, run_underlying ht, sizeOf, typeInfo, hi, Builtin.lenOf, h, hf]
  | some a => simp [Builtin.append_, run_underlying ht, sizeOf, typeInfo, hi, Builtin.lenOf, h, hf, storeCells]
section
variable {P : Program} {w : World}
/-- append of a slice of ints, to a row of ints that is owned -/
theorem run_append_ints {k : IntKind} (base : Nat) (t ty e : TypeId) (i : TypeInfo) (z : Value) (bytes : Nat) (ht : P.underlying t = some (.slice e)) (hi : P.info? e = some i) (hz : i.zero = some z)
    (hsize : i.size = 1) (hby : i.bytes = bytes) (hzs : z.cells.size = 1) (v : Value) (n : Nat) (xs : List Int) (hown : w.ownsRow base e 1 v n (vs k xs))
    (u : Value) (news : List Int) (hu : IsInts k w u news) (h63 : n + news.length ≤ maxLen) (hbytes : (n + news.length) * bytes ≤ 140737488355328) (hbase : base ≤ w.heap.size) :
    ∃ v' w', (Builtin.append_ #[t, t] ty #[v, u]).run P w = .ok v' w' ∧ w'.ownsRow base e 1 v' (n + news.length) (vs k (xs ++ news)) ∧ w.grownBy w' v.ownBlock ∧ ∃ A c, v' = .slice A (n + news.length) c := by
  have form : ∀ {w' : World} {v' : Value} {m : Nat} {ys : List Value}, w'.ownsRow base e 1 v' m ys → ∃ A c, v' = .slice A m c := by
    intro w' v' m ys h
    rcases h.2 with ⟨rfl, h0⟩ | ⟨g, cap, cur, rfl, -⟩
    · exact ⟨none, 0, by rw [h0]⟩
    · exact ⟨_, _, rfl⟩
  obtain ⟨A, c, rfl, h1, h2, h3⟩ := hu
  rcases news with _ | ⟨x, l⟩
  · obtain ⟨B, d, rfl⟩ := form hown
    have hnd : n ≤ d := by
      rcases hown.2 with ⟨h, h0⟩ | ⟨g, cap, cur, h, -, -, hc, -⟩
      · omega
      · injection h with _ _ h; omega
    refine ⟨_, w, run_append_zero w t ty e i ht hi B A n d c hnd, by simpa using hown, ⟨rfl, rfl, rfl, Nat.le_refl _, fun _ _ _ => rfl⟩, _, _, rfl⟩
  · obtain ⟨b, off, rfl, hb, hc⟩ := h3 (by simp)
    obtain ⟨v', w', hr, h4, h5, -⟩ := run_append_own (P := P) w base t ty e i z 1 bytes ht hi hz hsize hby hzs (by decide) v n (vs k xs) hown ⟨b, off, none⟩ (x :: l).length c (vs k (x :: l)) (by simp [vs]) (fun j y hy => by
      rw [vs_get] at hy
      obtain ⟨q, hq, rfl⟩ := Option.map_eq_some_iff.1 hy
      have hj : j < (x :: l).length := (List.getElem?_eq_some_iff.1 hq).1
      have := hc j hj
      rw [List.getD_eq_getElem?_getD, hq] at this
      by_cases e : j = 0
      · subst e; simpa [Addr.add] using this
      · simpa [Addr.add, e] using this) (fun y hy => by
      simp only [vs, List.mem_map] at hy
      obtain ⟨q, -, rfl⟩ := hy
      rfl) h63 hbytes hbase
    refine ⟨v', w', hr, ?_, h5, form h4⟩
    rw [show vs k (xs ++ x :: l) = vs k xs ++ vs k (x :: l) by simp [vs]]
    exact h4
theorem wp_append_ints {k : IntKind} {o : Oper} {a : Act} {K : Act → World → Prop} {Q : Exit → Act → World → Prop} (s x : Operand) (t : TypeId)
    (ho : o.op = .call { callee := .builtin .append, args := #[s, x], argTypes := #[t, t] })
    (base : Nat) (e : TypeId) (i : TypeInfo) (z : Value) (bytes : Nat) (ht : P.underlying t = some (.slice e)) (hi : P.info? e = some i) (hz : i.zero = some z)
    (hsize : i.size = 1) (hby : i.bytes = bytes) (hzs : z.cells.size = 1) (v : Value) (n : Nat) (xs : List Int) (hs : a.eval s = v) (hown : w.ownsRow base e 1 v n (vs k xs))
    (u : Value) (news : List Int) (hx : a.eval x = u) (hu : IsInts k w u news) (m : Nat) (hm : n + news.length = m) (h63 : m ≤ maxLen) (hbytes : m * bytes ≤ 140737488355328) (hbase : base ≤ w.heap.size)
    (h : ∀ A c w', w'.ownsRow base e 1 (.slice A m c) m (vs k (xs ++ news)) → w.grownBy w' v.ownBlock → K (a.put o.dst (.slice A m c)) w') : o.wp P a w K Q := by
  subst hm
  obtain ⟨v', w', hr, h2, h3, A, c, rfl⟩ := run_append_ints (P := P) base t o.type e i z bytes ht hi hz hsize hby hzs v n xs hown u news hu h63 hbytes hbase
  unfold Oper.wp execOp
  simp only [ho, resolve, invoke, builtin, Sem.run_bind, Sem.run_pure, Result.andThen_ok, List.map_toArray, List.map_cons, List.map_nil, hs, hx, hr]
  exact h A c w' h2 h3
/-- in a plain region -/
theorem wpList_append_ints {k : IntKind} {ops : Array Oper} {rest : List Oper} {o : Oper} {a : Act} {Q : Exit → Act → World → Prop} (hgd : o.guard = none) (s x : Operand) (t : TypeId)
    (ho : o.op = .call { callee := .builtin .append, args := #[s, x], argTypes := #[t, t] })
    (base : Nat) (e : TypeId) (i : TypeInfo) (z : Value) (bytes : Nat) (ht : P.underlying t = some (.slice e)) (hi : P.info? e = some i) (hz : i.zero = some z)
    (hsize : i.size = 1) (hby : i.bytes = bytes) (hzs : z.cells.size = 1) (v : Value) (n : Nat) (xs : List Int) (hs : a.eval s = v) (hown : w.ownsRow base e 1 v n (vs k xs))
    (u : Value) (news : List Int) (hx : a.eval x = u) (hu : IsInts k w u news) (m : Nat) (hm : n + news.length = m) (h63 : m ≤ maxLen) (hbytes : m * bytes ≤ 140737488355328) (hbase : base ≤ w.heap.size)
    (h : ∀ A c w', w'.ownsRow base e 1 (.slice A m c) m (vs k (xs ++ news)) → w.grownBy w' v.ownBlock → wpList P ops Q rest (a.put o.dst (.slice A m c)) w') : wpList P ops Q (o :: rest) a w :=
  wpList_plain hgd fun _ hK => wp_append_ints s x t ho base e i z bytes ht hi hz hsize hby hzs v n xs hs hown u news hx hu m hm h63 hbytes hbase fun A c w' h1 h2 => hK _ _ (h A c w' h1 h2)
/-- at a step of a region that draws its order -/
theorem step_append_ints {k : IntKind} {ops : Array Oper} {o : Oper} {a : Act} {K : Act → World → Prop} {Q : Exit → Act → World → Prop} {E : Prop} (hgd : o.guard = none) (s x : Operand) (t : TypeId)
    (ho : o.op = .call { callee := .builtin .append, args := #[s, x], argTypes := #[t, t] })
    (base : Nat) (e : TypeId) (i : TypeInfo) (z : Value) (bytes : Nat) (ht : P.underlying t = some (.slice e)) (hi : P.info? e = some i) (hz : i.zero = some z)
    (hsize : i.size = 1) (hby : i.bytes = bytes) (hzs : z.cells.size = 1) (v : Value) (n : Nat) (xs : List Int) (hs : a.eval s = v) (hown : w.ownsRow base e 1 v n (vs k xs))
    (u : Value) (news : List Int) (hx : a.eval x = u) (hu : IsInts k w u news) (m : Nat) (hm : n + news.length = m) (h63 : m ≤ maxLen) (hbytes : m * bytes ≤ 140737488355328) (hbase : base ≤ w.heap.size)
    (h : ∀ A c w', w'.ownsRow base e 1 (.slice A m c) m (vs k (xs ++ news)) → w.grownBy w' v.ownBlock → K (a.put o.dst (.slice A m c)) w') :
    if Region.wanted o (yielded ops a.tmps) = true then Oper.wp P o a w K Q else E := by
  have hw : Region.wanted o (yielded ops a.tmps) = true := by simp [Region.wanted, hgd]
  rw [if_pos hw]
  exact wp_append_ints s x t ho base e i z bytes ht hi hz hsize hby hzs v n xs hs hown u news hx hu m hm h63 hbytes hbase h
/-- at a step of a region that draws its order: an append that keeps ints elsewhere -/
theorem step_append_noint {ops : Array Oper} {o : Oper} {a : Act} {K : Act → World → Prop} {Q : Exit → Act → World → Prop} {E : Prop} (hgd : o.guard = none) (s x : Operand) (t : TypeId)
    (ho : o.op = .call { callee := .builtin .append, args := #[s, x], argTypes := #[t, t] })
    (base : Nat) (e : TypeId) (i : TypeInfo) (z : Value) (size bytes : Nat) (ht : P.underlying t = some (.slice e)) (hi : P.info? e = some i) (hz : i.zero = some z)
    (hsize : i.size = size) (hby : i.bytes = bytes) (hzs : z.cells.size = size) (hsz : 0 < size)
    (v : Value) (n : Nat) (xs : List Value) (hs : a.eval s = v) (hown : w.ownsRow base e size v n xs) (hno : NoInt w v) (hzn : ∀ y, y ∈ z.cells.toList → ∀ k q, y ≠ .int k q)
    (ad : Addr) (m c : Nat) (news : List Value) (hx : a.eval x = .slice (some ad) m c) (hl : news.length = m * size) (hnews : ∀ j u, news[j]? = some u → w.cell? (ad.add j) = some u) (h1 : ∀ u ∈ news, u.oneCell' = true)
    (hnn : ∀ u, u ∈ news → ∀ k q, u ≠ .int k q) (hm : 0 < m)
    (h63 : n + m ≤ maxLen) (hbytes : (n + m) * bytes ≤ 140737488355328) (hbase : base ≤ w.heap.size)
    (h : ∀ v' w', w'.ownsRow base e size v' (n + m) (xs ++ news) → w.grownBy w' v.ownBlock → NoInt w' v' → K (a.put o.dst v') w') :
    if Region.wanted o (yielded ops a.tmps) = true then Oper.wp P o a w K Q else E := by
  have hw : Region.wanted o (yielded ops a.tmps) = true := by simp [Region.wanted, hgd]
  rw [if_pos hw]
  exact wp_append_noint w s x t ho base e i z size bytes ht hi hz hsize hby hzs hsz v n xs hs hown hno hzn ad m c news hx hl hnews h1 hnn hm h63 hbytes hbase h
end
/-- a row that holds no ints is not a row of ints -/
theorem own_ne {k : IntKind} {w : World} {base : Nat} {e : TypeId} {v u : Value} {n : Nat} {xs : List Int} (ho : w.ownsRow base e 1 v n (vs k xs)) (h0 : n = 0 → v = .slice none 0 0) (hu : NoInt w u) : u.ownBlock = none ∨ u.ownBlock ≠ v.ownBlock := by
  rcases ho.2 with ⟨rfl, -⟩ | ⟨g, cap, cur, rfl, -, hg, -, -, -, ht⟩
  · cases h : u.ownBlock with
    | none => exact .inl rfl
    | some b => exact .inr (by simp [Value.ownBlock])
  · right
    intro e1
    rcases n with _ | n
    · have := h0 rfl; injection this with h1; cases h1
    · have hl := ho.1
      simp only [vs, List.length_map] at hl
      have hx : ∃ q, cur.toList[0]? = some (.int k q) := by
        have h2 := congrArg (·[0]?) ht
        rw [List.getElem?_take_of_lt (by omega)] at h2
        refine ⟨xs[0]'(by omega), ?_⟩
        rw [h2]
        simp [vs]
      obtain ⟨q, hq⟩ := hx
      exact hu g (by rw [e1]; rfl) cur e (0, 0) hg _ (List.mem_of_getElem? hq) _ _ rfl
theorem own_fresh (w : World) (base : Nat) (e : TypeId) (hb : base ≤ w.heap.size) {g : Nat} (hg : w.heap.size = g) : (w.alloc (.cells #[] e)).ownsRow base e 1 (.slice (some ⟨g, 0, none⟩) 0 0) 0 (vs .i64 []) := by
  subst hg
  exact World.ownsRow_made w #[] 0 hb (Nat.zero_le _) rfl
theorem IsInts.take {k : IntKind} {w : World} {A : Option Addr} {n c : Nat} {l : List Int} (h : IsInts k w (.slice A n c) l) {j : Nat} (hj : j ≤ l.length) : IsInts k w (.slice A j c) (l.take j) := by
  obtain ⟨A', c', e, h1, h2, h3⟩ := h
  injection e with e1 e2 e3
  subst e1 e3
  have hl : (l.take j).length = j := by rw [List.length_take]; omega
  refine ⟨A, c, by rw [hl], by omega, by omega, fun hne => ?_⟩
  obtain ⟨b, off, rfl, hb, hc⟩ := h3 (by omega)
  refine ⟨b, off, rfl, hb, fun i hi => ?_⟩
  rw [hl] at hi
  rw [hc i (by omega), List.getD_eq_getElem?_getD, List.getD_eq_getElem?_getD, List.getElem?_take_of_lt hi]
theorem IsInts.drop {k : IntKind} {w : World} {A : Option Addr} {n c : Nat} {l : List Int} (h : IsInts k w (.slice A n c) l) {j : Nat} (hj : j ≤ l.length) : IsInts k w (.slice (if c = j then A else A.map fun x => x.add j) (n - j) (c - j)) (l.drop j) := by
  obtain ⟨A', c', e, h1, h2, h3⟩ := h
  injection e with e1 e2 e3
  subst e1 e3
  subst e2
  have hl : (l.drop j).length = l.length - j := by rw [List.length_drop]
  refine ⟨_, c - j, by rw [hl], by omega, by omega, fun hne => ?_⟩
  obtain ⟨b, off, rfl, hb, hc⟩ := h3 (by omega)
  refine ⟨b, off + j, ?_, hb, fun i hi => ?_⟩
  · rw [if_neg (by omega)]
    simp only [Option.map_some, Option.some.injEq]
    unfold Addr.add
    split <;> simp_all
  · rw [hl] at hi
    rw [Nat.add_assoc, hc (j + i) (by omega), List.getD_eq_getElem?_getD, List.getD_eq_getElem?_getD, List.getElem?_drop]
theorem IsInts.alloc {k : IntKind} {w : World} {v : Value} {l : List Int} (h : IsInts k w v l) (o : Obj) : IsInts k (w.alloc o) v l := h.below ((Below.refl _ _).alloc (Nat.le_refl _) o) (Nat.le_refl _)
theorem IsInts.grown_ne {k : IntKind} {w w' : World} {u : Value} {l : List Int} {row : Option Nat} (h : IsInts k w u l) (hg : w.grownBy w' row) (hne : ∀ A n c, u = .slice (some A) n c → some A.block ≠ row) : IsInts k w' u l := by
  obtain ⟨A, c, rfl, h1, h2, h3⟩ := h
  refine ⟨A, c, rfl, h1, h2, fun hn => ?_⟩
  obtain ⟨b, off, rfl, hb, hc⟩ := h3 hn
  exact ⟨b, off, rfl, Nat.lt_of_lt_of_le hb hg.size, fun i hi => hg.cell (hc i hi) (hne ⟨b, off, none⟩ _ _ rfl)⟩
theorem ints_one (X : World) (n : Int) (e : TypeId) {g : Nat} (hg : X.heap.size = g) : IsInts .i64 (X.alloc (.cells #[.int .i64 n] e)) (.slice (some ⟨g, 0, none⟩) 1 1) [n] := by
  subst hg
  exact (Blk.new X (vs .i64 [n]) e).ints rfl (by decide)
/-- a slice of slices of ints -/
def RowsI (w : World) (x : Value) (ls : List (List Nat)) : Prop :=
  ∃ (A : Option Addr) (c : Nat) (vals : List Value), x = .slice A ls.length c ∧ ls.length ≤ c ∧ c ≤ maxLen ∧ vals.length = ls.length ∧
    (ls ≠ [] → ∃ b off, A = some ⟨b, off, none⟩ ∧ b < w.heap.size ∧ ∀ (j : Nat) (u : Value), vals[j]? = some u → w.cell? ⟨b, off + j, none⟩ = some u) ∧
    ∀ (i : Nat) (v : Value) (l : List Nat), vals[i]? = some v → ls[i]? = some l → IsInts .i64 w v (l.map Int.ofNat)
theorem RowsI.below {B : Nat} {w w' : World} {x : Value} {ls : List (List Nat)} (h : RowsI w x ls) (hb : Below B w w') (hB : w.heap.size ≤ B) : RowsI w' x ls := by
  obtain ⟨A, c, vals, hx, h1, h2, h3, h4, h5⟩ := h
  refine ⟨A, c, vals, hx, h1, h2, h3, fun hne => ?_, fun i v l hv hl => (h5 i v l hv hl).below hb hB⟩
  obtain ⟨b, off, rfl, hlt, hc⟩ := h4 hne
  exact ⟨b, off, rfl, by have := hb.size; omega, fun j u hu => (hb.cell (p := ⟨b, off + j, none⟩) (by show b < B; omega)).trans (hc j u hu)⟩
theorem RowsI.at {w : World} {x : Value} {ls : List (List Nat)} (h : RowsI w x ls) : ∃ A c, x = .slice A ls.length c ∧ ls.length ≤ c ∧ c ≤ maxLen ∧ ∀ i, i < ls.length →
    ∃ b off v, A = some ⟨b, off, none⟩ ∧ b < w.heap.size ∧ w.cell? ⟨b, off + i, none⟩ = some v ∧ IsInts .i64 w v ((ls.getD i []).map Int.ofNat) := by
  obtain ⟨A, c, vals, hx, h1, h2, h3, h4, h5⟩ := h
  refine ⟨A, c, hx, h1, h2, fun i hi => ?_⟩
  obtain ⟨b, off, rfl, hlt, hc⟩ := h4 (by rintro rfl; simp at hi)
  have hv : vals[i]? = some (vals[i]'(by omega)) := List.getElem?_eq_getElem _
  exact ⟨b, off, _, rfl, hlt, hc _ _ hv, h5 i _ _ hv (by rw [List.getD_eq_getElem?_getD, List.getElem?_eq_getElem hi]; rfl)⟩
theorem own_rowsI {w : World} {base : Nat} {e : TypeId} {v : Value} {n : Nat} {vals : List Value} {ls : List (List Nat)} (h : w.ownsRow base e 1 v n vals) (hn : n = ls.length)
    (hq : ∀ (i : Nat) (u : Value) (l : List Nat), vals[i]? = some u → ls[i]? = some l → IsInts .i64 w u (l.map Int.ofNat)) : RowsI w v ls := by
  subst hn
  have hl := h.1
  rw [Nat.mul_one] at hl
  rcases h.2 with ⟨rfl, h0⟩ | ⟨g, cap, cur, rfl, -, hg, hc, hm, -, -⟩
  · rw [List.eq_nil_of_length_eq_zero h0] at hl ⊢
    exact ⟨none, 0, vals, rfl, Nat.le_refl _, Nat.zero_le _, hl, fun h => absurd rfl h, fun i u l h1 h2 => by simp at h2⟩
  · refine ⟨_, _, vals, rfl, hc, hm, hl, fun _ => ⟨g, 0, rfl, lt_of_block hg, fun j u hu => ?_⟩, hq⟩
    have := h.cells (g := g) rfl j u hu
    rw [Nat.zero_add]
    rwa [show (⟨g, 0, none⟩ : Addr).add j = ⟨g, j, none⟩ by unfold Addr.add; split <;> simp_all] at this
end Go.Proofs.YtjfkniknmkcdcaaGreatDoor.K

namespace Go.Proofs.YtjfkniknmkcdcaaGreatDoor
open Go.RowKit K

theorem pick_any (n m : Int) (w : World) (hm : 1 ≤ m) (hm2 : m ≤ 4611686018427387904) :
    Calls Tryz.prog 6 #[.int .i64 n, .int .i64 m] w fun e w' => e = .returned (.int .i64 (n % m)) ∧ w = w' := by
  obtain ⟨e, b1, b2⟩ := emod_tmod n m hm
  rw [e]
  clear e
  by_cases hlt : n.tmod m < 0
  · rw [if_pos hlt]
    go_enter Tryz.func6, Tryz.ntmps6
    go_wp2
    go_ret
    exact ⟨rfl, rfl⟩
  · rw [if_neg hlt]
    go_enter Tryz.func6, Tryz.ntmps6
    go_wp2
    go_ret
    exact ⟨rfl, rfl⟩

end Go.Proofs.YtjfkniknmkcdcaaGreatDoor
