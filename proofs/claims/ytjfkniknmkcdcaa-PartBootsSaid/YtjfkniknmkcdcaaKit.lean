/- Words on memory for the walks of this seat: a block known whole, and what is left alone. No program. -/
import Derived.WalkKit
import Derived.Below
import Derived.OneCell
import Derived.OwnWalk
import Derived.Lib.Hide
import Derived.Deep.LoopGhost
import Derived.Deep.Draws
import Derived.Deep.QuietTactic
import Derived.BigQuiet
namespace Go.Proofs.Ytjfkniknmkcdcaa.K
open Go Go.RowKit

/-- block b holds just these cells, and none is frozen -/
def Blk (w : World) (b : Nat) (l : List Value) (e : TypeId) : Prop := w.heap[b]? = some (.cells l.toArray e (0, 0))

section
variable {w : World} {b : Nat} {l : List Value} {e : TypeId}
theorem Blk.lt (h : Blk w b l e) : b < w.heap.size := lt_of_block h
theorem Blk.cell (h : Blk w b l e) (i : Nat) : w.cell? ⟨b, i, none⟩ = l[i]? := by
  unfold Blk at h
  simp [World.cell?, h]
theorem Blk.frozen (h : Blk w b l e) (i : Nat) : w.frozen? ⟨b, i, none⟩ = false := by
  unfold Blk at h
  simp [World.frozen?, h]
theorem Blk.set (h : Blk w b l e) (i : Nat) (v : Value) : Blk (w.setCell ⟨b, i, none⟩ v) b (l.set i v) e := by
  have hlt := h.lt
  unfold Blk at h ⊢
  have h' : w.heap[b] = .cells l.toArray e (0, 0) := by simpa [Array.getElem?_eq_getElem hlt] using h
  show (w.heap.modify b _)[b]? = _
  rw [Array.getElem?_eq_getElem (by simpa using hlt), Array.getElem_modify_self, h']
  simp
theorem Blk.far (h : Blk w b l e) {a : Addr} (ha : b ≠ a.block) (v : Value) : Blk (w.setCell a v) b l e := by
  unfold Blk at h ⊢
  rw [Below.heap_setCell _ _ _ _ ha]; exact h
theorem Blk.alloc (h : Blk w b l e) (o : Obj) : Blk (w.alloc o) b l e := by
  have := h.lt
  unfold Blk at h ⊢
  rw [Below.heap_alloc _ _ _ this]; exact h
theorem Blk.drew (h : Blk w b l e) : Blk w.drew b l e := h
theorem Blk.below {B : Nat} {w' : World} (h : Blk w b l e) (hb : Below B w w') (hlt : b < B) : Blk w' b l e := (hb.block b hlt).trans h
theorem Blk.drewN (h : Blk w b l e) (n : Nat) : Blk (w.drewN n) b l e := h
theorem Blk.mk (w : World) (b : Nat) (hb : w.heap.size = b) (l : List Value) (e : TypeId) : Blk (w.alloc (.cells l.toArray e)) b l e := by subst hb; exact heap_alloc_new w _
theorem Blk.new (w : World) (l : List Value) (e : TypeId) : Blk (w.alloc (.cells l.toArray e)) w.heap.size l e := heap_alloc_new w _
end

/-- outside the blocks of S (and beyond what there was) nothing has turned -/
structure Fr (S : Nat → Prop) (w w' : World) : Prop where
  os : w'.os = w.os
  tape : w'.tape = w.tape
  output : w'.output = w.output
  size : w.heap.size ≤ w'.heap.size
  block : ∀ k, k < w.heap.size → ¬ S k → w'.heap[k]? = w.heap[k]?
theorem Fr.refl (S : Nat → Prop) (w : World) : Fr S w w := ⟨rfl, rfl, rfl, Nat.le_refl _, fun _ _ _ => rfl⟩
theorem Fr.trans {S : Nat → Prop} {a b c : World} (h : Fr S a b) (k : Fr S b c) : Fr S a c :=
  ⟨k.os.trans h.os, k.tape.trans h.tape, k.output.trans h.output, Nat.le_trans h.size k.size, fun i hi hs => (k.block i (Nat.lt_of_lt_of_le hi h.size) hs).trans (h.block i hi hs)⟩
theorem Fr.mono {S T : Nat → Prop} {a b : World} (h : Fr S a b) (hs : ∀ k, k < a.heap.size → S k → T k) : Fr T a b :=
  ⟨h.os, h.tape, h.output, h.size, fun i hi ht => h.block i hi fun k => ht (hs i hi k)⟩
theorem Fr.of_below {S : Nat → Prop} {B : Nat} {a b : World} (h : Below B a b) (hB : a.heap.size ≤ B) : Fr S a b :=
  ⟨h.os, h.tape, h.output, h.size, fun i hi _ => h.block i (Nat.lt_of_lt_of_le hi hB)⟩
theorem Fr.below {S : Nat → Prop} {B : Nat} {a b : World} (h : Fr S a b) (hS : ∀ k, k < B → ¬ S k) (hB : B ≤ a.heap.size) : Below B a b :=
  ⟨h.os, h.tape, h.output, h.size, fun i hi => h.block i (Nat.lt_of_lt_of_le hi hB) (hS i hi)⟩
theorem Fr.step {S : Nat → Prop} {B : Nat} {a b c : World} (h : Fr S a b) (k : Below B b c) (hB : a.heap.size ≤ B) : Fr S a c :=
  ⟨k.os.trans h.os, k.tape.trans h.tape, k.output.trans h.output, Nat.le_trans h.size k.size, fun i hi hs => (k.block i (Nat.lt_of_lt_of_le hi hB)).trans (h.block i hi hs)⟩
theorem Fr.drew {S : Nat → Prop} {a b : World} (h : Fr S a b) : Fr S a b.drew := ⟨h.os, h.tape, h.output, h.size, h.block⟩
theorem Fr.drewN {S : Nat → Prop} {a b : World} (h : Fr S a b) (n : Nat) : Fr S a (b.drewN n) := ⟨h.os, h.tape, h.output, h.size, h.block⟩
theorem bdn {B : Nat} {a w : World} (h : Below B a w) (n : Nat) : Below B a (w.drewN n) := h.trans ⟨rfl, rfl, rfl, Nat.le_refl _, fun _ _ => rfl⟩
theorem Fr.alloc {S : Nat → Prop} {a b : World} (h : Fr S a b) (o : Obj) : Fr S a (b.alloc o) :=
  ⟨h.os, h.tape, h.output, Nat.le_trans h.size (by simp), fun i hi hs => (Below.heap_alloc b o i (Nat.lt_of_lt_of_le hi h.size)).trans (h.block i hi hs)⟩
theorem Fr.set {S : Nat → Prop} {a b : World} (h : Fr S a b) {p : Addr} (hp : S p.block ∨ a.heap.size ≤ p.block) (v : Value) : Fr S a (b.setCell p v) :=
  ⟨h.os, h.tape, h.output, Nat.le_trans h.size (by simp [World.setCell]), fun i hi hs =>
    (Below.heap_setCell b p v i (by intro e; subst e; rcases hp with hp | hp; exact hs hp; omega)).trans (h.block i hi hs)⟩
theorem Blk.fr {S : Nat → Prop} {w w' : World} {b : Nat} {l : List Value} {e : TypeId} (h : Blk w b l e) (hf : Fr S w w') (hs : ¬ S b) : Blk w' b l e :=
  (hf.block b h.lt hs).trans h

theorem set_set (w : World) (a : Addr) (u v : Value) (ha : a.spot = none) : (w.setCell a u).setCell a v = w.setCell a v := by
  unfold World.setCell
  congr 1
  apply Array.ext_getElem?
  intro i
  simp only [Array.getElem?_modify]
  by_cases h : a.block = i
  · simp only [h, if_true]
    cases w.heap[i]? with
    | none => rfl
    | some o => cases o <;> simp [ha]
  · simp [h]
theorem Blk.set_same {w : World} {b : Nat} {v : Value} {e : TypeId} (h : Blk w b [v] e) : w.setCell ⟨b, 0, none⟩ v = w := by
  have hlt := h.lt
  have h0 : w.heap[b]? = some (.cells #[v] e (0, 0)) := h
  have hh : (w.setCell ⟨b, 0, none⟩ v).heap = w.heap := by
    unfold World.setCell
    apply Array.ext_getElem?
    intro i
    simp only [Array.getElem?_modify]
    by_cases hi : b = i
    · subst hi; simp [h0]
    · simp [hi]
  calc w.setCell ⟨b, 0, none⟩ v = { w with heap := (w.setCell ⟨b, 0, none⟩ v).heap } := rfl
    _ = w := by rw [hh]

theorem madeCells_one (z : Value) (n : Nat) : madeCells #[z] n = (List.replicate n z).toArray := by
  have e : (fun i => (#[z] : Array Value)[i % (#[z] : Array Value).size]!) = fun _ => z := by
    funext i
    show (#[z] : Array Value)[i % 1]! = z
    rw [Nat.mod_one]
    rfl
  unfold madeCells
  rw [e]
  apply Array.ext
  · simp
  · intro i h1 h2
    simp
/-- make([]T, n) of one-celled elements: a new block of zero values. A rule for the walk. -/
theorem mk_run {P : Program} {t e : TypeId} {z : Value} {bytes : Nat} (ht : P.underlying t = some (.slice e)) (hi : (P.info? e).map (fun i => (i.zero, i.size, i.bytes)) = some (some z, 1, bytes))
    (hz : z.cells = #[z]) (kl kc : IntKind) (n : Nat) (hn : n ≤ maxLen) (hb : bytes * n ≤ 281474976710656) {l : List Value} (hl : List.replicate n z = l) :
    ∀ w : World, (Instr.makeSlice t (.int kl (n : Int)) (.int kc (n : Int))).run P w = .ok (.slice (some ⟨w.heap.size, 0, none⟩) n n) (w.alloc (.cells l.toArray e)) := by
  intro w
  subst hl
  obtain ⟨i, h1, h2, h3, h4⟩ := info_parts hi
  unfold maxLen at hn
  have := run_make (P := P) w t e i z ht h1 h2 kl kc (n : Int) (n : Int) (by omega) (by omega) (by rw [h4]; omega) (by omega)
  rw [h3, hz, Nat.mul_one, madeCells_one] at this
  simpa using this

/-- the same, the size spelled as the walk spells it -/
theorem mk_at {P : Program} {t e : TypeId} {z : Value} {bytes : Nat} (ht : P.underlying t = some (.slice e)) (hi : (P.info? e).map (fun i => (i.zero, i.size, i.bytes)) = some (some z, 1, bytes))
    (hz : z.cells = #[z]) (kl kc : IntKind) (N : Int) (n : Nat) (hN : N = n) (hn : n ≤ maxLen) (hb : bytes * n ≤ 281474976710656) {l : List Value} (hl : List.replicate n z = l) :
    ∀ w : World, (Instr.makeSlice t (.int kl N) (.int kc N)).run P w = .ok (.slice (some ⟨w.heap.size, 0, none⟩) n n) (w.alloc (.cells l.toArray e)) := by
  subst hN; exact mk_run ht hi hz kl kc n hn hb hl
/-- ints of a kind as values -/
def vs (k : IntKind) (l : List Int) : List Value := l.map (Value.int k)
theorem vs_get {k : IntKind} {l : List Int} {i : Nat} : (vs k l)[i]? = (l[i]?).map (Value.int k) := by simp [vs]
theorem vs_set {k : IntKind} {l : List Int} {i : Nat} {x : Int} : (vs k l).set i (.int k x) = vs k (l.set i x) := by simp [vs]
theorem vs_replicate {k : IntKind} {n : Nat} {x : Int} : List.replicate n (Value.int k x) = vs k (List.replicate n x) := by simp [vs]
theorem vs_length {k : IntKind} {l : List Int} : (vs k l).length = l.length := by simp [vs]
theorem Blk.at {w : World} {b : Nat} {k : IntKind} {l : List Int} {e : TypeId} (h : Blk w b (vs k l) e) (i : Nat) (hi : i < l.length) : w.cell? ⟨b, i, none⟩ = some (.int k (l.getD i 0)) := by
  rw [h.cell, vs_get]
  simp [hi]
theorem Blk.one {w : World} {b : Nat} {v : Value} {e : TypeId} (h : Blk w b [v] e) : w.cell? ⟨b, 0, none⟩ = some v := by
  rw [h.cell]; rfl
/-- a slice value that reads as these ints -/
def IsInts (k : IntKind) (w : World) (v : Value) (l : List Int) : Prop :=
  ∃ (A : Option Addr) (c : Nat), v = .slice A l.length c ∧ l.length ≤ c ∧ l.length ≤ maxLen ∧
    (l.length ≠ 0 → ∃ b off, A = some ⟨b, off, none⟩ ∧ b < w.heap.size ∧ ∀ i, i < l.length → w.cell? ⟨b, off + i, none⟩ = some (.int k (l.getD i 0)))
theorem IsInts.fr {S : Nat → Prop} {k : IntKind} {w w' : World} {v : Value} {l : List Int} (h : IsInts k w v l) (hf : Fr S w w') (hs : ∀ A n c, v = .slice (some A) n c → ¬ S A.block) : IsInts k w' v l := by
  obtain ⟨A, c, hv, h1, h2, h3⟩ := h
  refine ⟨A, c, hv, h1, h2, fun hne => ?_⟩
  obtain ⟨b, off, rfl, hb, hc⟩ := h3 hne
  have hS : ¬ S b := hs _ _ _ hv
  exact ⟨b, off, rfl, Nat.lt_of_lt_of_le hb hf.size, fun i hi => (World.cell?_of_block (w := w) (hf.block b hb hS)).trans (hc i hi)⟩
theorem IsInts.below {B : Nat} {k : IntKind} {w w' : World} {v : Value} {l : List Int} (h : IsInts k w v l) (hb : Below B w w') (hB : w.heap.size ≤ B) : IsInts k w' v l :=
  h.fr (S := fun _ => False) (Fr.of_below hb hB) (fun _ _ _ _ h => h)
theorem Blk.ints {w : World} {b : Nat} {k : IntKind} {l : List Int} {e : TypeId} {n : Nat} (h : Blk w b (vs k l) e) (hn : n = l.length) (hm : n ≤ maxLen) : IsInts k w (.slice (some ⟨b, 0, none⟩) n n) l := by
  subst hn
  exact ⟨_, _, rfl, Nat.le_refl _, hm, fun _ => ⟨b, 0, rfl, h.lt, fun i hi => by rw [Nat.zero_add]; exact h.at i hi⟩⟩
/-- a slice that lies in blocks from B on, if anywhere -/
def NewV (B : Nat) (v : Value) : Prop := ∀ A n c, v = .slice (some A) n c → B ≤ A.block
theorem NewV.mono {B C : Nat} {v : Value} (h : NewV B v) (hc : C ≤ B) : NewV C v := fun A n c e => Nat.le_trans hc (h A n c e)
theorem own_new {w : World} {base size : Nat} {e : TypeId} {v : Value} {n : Nat} {l : List Value} (h : w.ownsRow base e size v n l) : NewV base v := by
  intro A n c e
  subst e
  exact (h.lt A.block rfl).1
theorem getD_mem (l : List Int) (i : Nat) (h : i < l.length) : l.getD i 0 ∈ l := by
  rw [List.getD_eq_getElem?_getD, List.getElem?_eq_getElem h]; exact List.getElem_mem h
/-- a store into a block that holds no ints (a box of a struct) -/
theorem IsInts.box {k : IntKind} {w : World} {v : Value} {l : List Int} {g : Nat} {cells : List Value} {T : TypeId} (h : IsInts k w v l) (hg : Blk w g cells T) (hno : ∀ x, x ∈ cells → ∀ q, x ≠ .int k q) (j : Nat) (u : Value) : IsInts k (w.setCell ⟨g, j, none⟩ u) v l := by
  obtain ⟨A, c, hv, h1, h2, h3⟩ := h
  refine ⟨A, c, hv, h1, h2, fun hne => ?_⟩
  obtain ⟨b, off, rfl, hb, hc⟩ := h3 hne
  have hbg : b ≠ g := by
    rintro rfl
    have h4 := hc 0 (by omega)
    rw [hg.cell] at h4
    exact hno _ (List.mem_of_getElem? h4) _ rfl
  refine ⟨b, off, rfl, by simpa [World.setCell] using hb, fun i hi => ?_⟩
  exact (World.cell?_of_block (w := w) (Below.heap_setCell w ⟨g, j, none⟩ u b hbg)).trans (hc i hi)
theorem IsInts.nil (k : IntKind) (w : World) : IsInts k w (.slice none 0 0) [] := ⟨none, 0, rfl, Nat.le_refl _, Nat.zero_le _, fun h => absurd rfl h⟩
theorem own_ints {k : IntKind} {w : World} {base : Nat} {e : TypeId} {v : Value} {n : Nat} {l : List Int} (h : w.ownsRow base e 1 v n (vs k l)) (hn : n = l.length) : IsInts k w v l := by
  obtain ⟨h1, h2⟩ := h
  subst hn
  rcases h2 with ⟨rfl, h0⟩ | ⟨g, cap, cur, rfl, hb, hg, hc, hm, hs, ht⟩
  · rw [List.eq_nil_of_length_eq_zero h0]; exact IsInts.nil k w
  · refine ⟨_, _, rfl, hc, Nat.le_trans hc hm, fun _ => ⟨g, 0, rfl, lt_of_block hg, fun i hi => ?_⟩⟩
    have : cur.toList[i]? = some (.int k (l.getD i 0)) := by
      have := congrArg (·[i]?) ht
      simp only [Nat.mul_one] at this
      rw [List.getElem?_take_of_lt hi, vs_get] at this
      rw [this]; simp [hi]
    simp only [World.cell?, hg, Nat.zero_add]
    simpa using this
theorem emod_tmod (n m : Int) (hm : 1 ≤ m) : n % m = (if n.tmod m < 0 then n.tmod m + m else n.tmod m) ∧ -m < n.tmod m ∧ n.tmod m < m := by
  have hlt : ∀ a : Int, 0 ≤ a % m ∧ a % m < m := fun a => ⟨Int.emod_nonneg _ (by omega), Int.emod_lt_of_pos _ (by omega)⟩
  by_cases h : 0 ≤ n
  · rw [Int.tmod_eq_emod_of_nonneg h]
    have := hlt n
    rw [if_neg (by omega)]
    omega
  · have e : n.tmod m = -((-n) % m) := by
      rw [← Int.tmod_eq_emod_of_nonneg (show 0 ≤ -n by omega), Int.neg_tmod, Int.neg_neg]
    rw [e]
    have h1 := hlt (-n)
    have h2 := hlt n
    have h3 : n % m = (-((-n) % m)) % m := by
      have h4 : n = -((-n) % m) + m * (-((-n) / m)) := by
        have := Int.emod_add_mul_ediv (-n) m
        rw [Int.mul_neg]; omega
      conv => lhs; rw [h4]
      rw [Int.add_mul_emod_self_left]
    by_cases h0 : (-n) % m = 0
    · rw [h0] at h3 ⊢
      rw [if_neg (by omega)]
      simp at h3
      simp [h3]; omega
    · rw [if_pos (by omega)]
      have h5 : (-((-n) % m)) % m = (-((-n) % m) + m) % m := by simp
      rw [h3, h5, Int.emod_eq_of_lt (by omega) (by omega)]
      omega
end Go.Proofs.Ytjfkniknmkcdcaa.K
