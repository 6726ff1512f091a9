/- Texts of this claim, joined: Sa, Sb, Sc. -/
import Derived.Test.YtjfkniknmkcdcaaGreatDoorMHb
import Derived.Laws.Shifts
namespace Go.Proofs.YtjfkniknmkcdcaaGreatDoor
open Go.RowKit K Nu

/-- of how many columns a table is -/
def cols (L : Nat) : Nat := if L = 2 then 1 else if L = 4 then 2 else if L = 8 then 3 else if L = 16 then 4 else if L = 32 then 5 else if L = 64 then 6 else if L = 128 then 7 else if L = 256 then 8 else if L = 512 then 9 else if L = 1024 then 10 else 0
theorem cols_pow {k : Nat} (h1 : 1 ≤ k) (h2 : k ≤ 10) : cols (2 ^ k) = k := by
  obtain rfl | rfl | rfl | rfl | rfl | rfl | rfl | rfl | rfl | rfl : k = 1 ∨ k = 2 ∨ k = 3 ∨ k = 4 ∨ k = 5 ∨ k = 6 ∨ k = 7 ∨ k = 8 ∨ k = 9 ∨ k = 10 := by omega
  all_goals rfl
theorem cols_none {L : Nat} (h : ∀ j, 1 ≤ j → j < 11 → L ≠ 2 ^ j) : cols L = 0 := by
  have h1 := h 1 (by decide) (by decide); have h2 := h 2 (by decide) (by decide); have h3 := h 3 (by decide) (by decide); have h4 := h 4 (by decide) (by decide); have h5 := h 5 (by decide) (by decide)
  have h6 := h 6 (by decide) (by decide); have h7 := h 7 (by decide) (by decide); have h8 := h 8 (by decide) (by decide); have h9 := h 9 (by decide) (by decide); have h10 := h 10 (by decide) (by decide)
  unfold cols
  rw [if_neg h1, if_neg h2, if_neg h3, if_neg h4, if_neg h5, if_neg h6, if_neg h7, if_neg h8, if_neg h9, if_neg h10]
theorem cols_le (L : Nat) : cols L ≤ 10 ∧ (cols L ≠ 0 → L = 2 ^ cols L) := by
  by_cases h : ∃ j, 1 ≤ j ∧ j < 11 ∧ L = 2 ^ j
  · obtain ⟨j, h1, h2, rfl⟩ := h
    rw [cols_pow h1 (by omega)]
    exact ⟨by omega, fun _ => rfl⟩
  · rw [cols_none (fun j h1 h2 e => h ⟨j, h1, h2, e⟩)]
    exact ⟨by omega, fun h => absurd rfl h⟩

set_option maxRecDepth 100000 in
set_option maxHeartbeats 2000000 in
theorem columns_any (A : Option Addr) (L c : Nat) (w : World) :
    Calls Tryz.prog 26 #[.slice A L c] w fun e w' => e = .returned (.int .i64 (cols L : Int)) ∧ w = w' := by
  obtain ⟨r, hr⟩ : ∃ r, cols L = r := ⟨_, rfl⟩
  rw [hr]
  have HR := Lib.hid hr
  clear hr
  go_enter Tryz.func26, Tryz.ntmps26
  go_wp2
  go_loopw [3] (fun i wr => ∃ k : Nat, 1 ≤ k ∧ k ≤ 11 ∧ i = .int .i64 k ∧ Hid (∀ j, 1 ≤ j → j < k → L ≠ 2 ^ j) ∧ wr = w) (fun i _ => 11 - (intOf i).toNat)
  case atStart => exact ⟨1, by omega, by omega, rfl, Lib.hid (fun j h1 h2 => by omega), rfl⟩
  case round =>
    obtain ⟨k, hk1, hk2, rfl, hno, rfl⟩ := hrel
    by_cases hlt : k < 11
    · have hp : (2 : Nat) ^ k ≤ 2 ^ 10 := Nat.pow_le_pow_right (by decide) (by omega)
      have hp2 : (2 : Nat) ^ 10 = 1024 := by decide
      have hpz : (2 : Int) ^ k = ((2 ^ k : Nat) : Int) := by rw [Int.natCast_pow]; rfl
      have hw : IntKind.i64.wrap ((2 : Int) ^ k) = 2 ^ k := by
        rw [hp2] at hp
        rw [hpz, IntKind.wrap_i64]
        generalize (2 : Nat) ^ k = P at hp ⊢
        omega
      by_cases he : L = 2 ^ k
      · have t1 : ((L : Int) == 2 ^ k) = true := by rw [hpz, he]; simp
        have HZ := Lib.hid (show r = k by rw [← HR.out, he]; exact cols_pow hk1 (by omega))
        clear he hpz
        go_wp2
        go_ret
        rw [HZ.out]
        exact ⟨rfl, rfl⟩
      · have t1 : ((L : Int) == 2 ^ k) = false := by rw [hpz]; exact beq_eq_false_iff_ne.2 (by omega)
        have HE := Lib.hid he
        clear he hpz
        go_wp2
        go_roundw
        case rel =>
          refine ⟨k + 1, by omega, by omega, by go_num, Lib.hid (fun j h1 h2 => ?_), trivial⟩
          by_cases e : j = k
          · subst e; exact HE.out
          · exact hno.out j h1 (by omega)
        case measure => simp [intOf]; omega
    · obtain rfl : k = 11 := by omega
      have HZ := Lib.hid (show r = 0 by rw [← HR.out]; exact cols_none hno.out)
      go_wp2
      go_ret
      rw [HZ.out]
      exact ⟨rfl, rfl⟩

/-- how many bits are 1 (of one that has at most so many) -/
def pc : Nat → Nat → Nat
  | 0, _ => 0
  | f + 1, s => if s = 0 then 0 else pc f (s &&& (s - 1)) + 1
def ones (s : Nat) : Nat := pc s s
theorem pc_zero (f : Nat) : pc f 0 = 0 := by cases f <;> rfl
theorem and_pred_lt {s : Nat} : s &&& (s - 1) ≤ s - 1 := Nat.and_le_right

theorem Tryz.and_i64 {a b : Nat} (ha : a < 9223372036854775808) (hb : b < 9223372036854775808) : bits .and .i64 (a : Int) (b : Int) = ((a &&& b : Nat) : Int) :=
  (bits_nat .i64 63 (by decide) (fun n h0 h1 => by rw [IntKind.wrap_i64]; simp at h1; omega) a b (by simpa using ha) (by simpa using hb)).1

set_option maxRecDepth 100000 in
set_option maxHeartbeats 2000000 in
theorem ones_any (s : Nat) (w : World) (hs : s < 4611686018427387904) :
    Calls Tryz.prog 64 #[.int .i64 (s : Int)] w fun e w' => e = .returned (.int .i64 (ones s : Int)) ∧ w = w' := by
  obtain ⟨r, hr⟩ : ∃ r, ones s = r := ⟨_, rfl⟩
  rw [hr]
  have HR := Lib.hid hr
  clear hr
  go_enter Tryz.func64, Tryz.ntmps64
  go_wp2
  go_loopw [0, 3] (fun u n wr => ∃ (x j : Nat), u = .int .i64 x ∧ n = .int .i64 j ∧ x + j ≤ s ∧ Hid (j + pc (s - j) x = r) ∧ wr = w) (fun u _ _ => (intOf u).toNat)
  case atStart => exact ⟨s, 0, rfl, rfl, by omega, Lib.hid (by rw [Nat.zero_add, Nat.sub_zero]; exact HR.out), rfl⟩
  case round =>
    obtain ⟨x, j, rfl, rfl, hxj, hpc, rfl⟩ := hrel
    by_cases hx : x = 0
    · subst hx
      have HZ := Lib.hid (show r = j by rw [← hpc.out, pc_zero]; rfl)
      go_wp2
      go_ret
      rw [HZ.out]
      exact ⟨rfl, rfl⟩
    · have hand := Tryz.and_i64 (a := x) (b := x - 1) (by omega) (by omega)
      have hsub : ((x - 1 : Nat) : Int) = (x : Int) - 1 := by omega
      rw [hsub] at hand
      have hle := and_pred_lt (s := x)
      obtain ⟨y, hy⟩ : ∃ y, x &&& (x - 1) = y := ⟨_, rfl⟩
      rw [hy] at hand hle
      have HP := Lib.hid (show j + 1 + pc (s - (j + 1)) y = r by
        rw [← hpc.out, show s - j = s - (j + 1) + 1 by omega]
        simp only [pc, if_neg hx, hy]; omega)
      have hw1 : IntKind.i64.wrap ((x : Int) - 1) = x - 1 := by rw [IntKind.wrap_i64]; omega
      have hw2 : IntKind.i64.wrap ((j : Int) + 1) = j + 1 := by rw [IntKind.wrap_i64]; omega
      clear hsub hy
      go_wp2
      go_roundw
      case rel => exact ⟨y, j + 1, rfl, by go_num, by omega, HP, trivial⟩
      case measure => simp [intOf]; omega

end Go.Proofs.YtjfkniknmkcdcaaGreatDoor

namespace Go.Proofs.YtjfkniknmkcdcaaGreatDoor
open Go.RowKit K Nu

/-- a row of two -/
def mixR (xs bs : List Rat) (hs : List Bool) : List Rat := (List.range bs.length).map fun i => if hs.getD i false then xs.getD i 0 else bs.getD i 0
/-- a slice of bools -/
def IsBools (w : World) (v : Value) (l : List Bool) : Prop :=
  ∃ (A : Option Addr) (c : Nat), v = .slice A l.length c ∧ l.length ≤ c ∧ (l.length ≠ 0 → ∃ b off, A = some ⟨b, off, none⟩ ∧ b < w.heap.size ∧ ∀ i, i < l.length → w.cell? ⟨b, off + i, none⟩ = some (.bool (l.getD i false)))
theorem IsBools.below {B : Nat} {w w' : World} {v : Value} {l : List Bool} (h : IsBools w v l) (hb : Below B w w') (hB : w.heap.size ≤ B) : IsBools w' v l := by
  obtain ⟨A, c, e, h1, h2⟩ := h
  refine ⟨A, c, e, h1, fun hne => ?_⟩
  obtain ⟨b, off, rfl, hlt, hc⟩ := h2 hne
  exact ⟨b, off, rfl, by have := hb.size; omega, fun i hi => (hb.cell (p := ⟨b, off + i, none⟩) (by show b < B; omega)).trans (hc i hi)⟩

/-- a store of three cells into a row that is owned -/
theorem own_store3 {w : World} {base : Nat} {e : TypeId} {v : Value} {n : Nat} {ts : List T3} (h : w.ownsRow base e 3 v n (flat ts)) (hn : NoInt w v) {i : Nat} (hi : i < ts.length) {g : Nat} (hg : v.ownBlock = some g) (b : Bool) (u1 u2 : Value) (hu1 : ∀ k q, u1 ≠ .int k q) (hu2 : ∀ k q, u2 ≠ .int k q) :
    (((w.setCell ⟨g, i * 3, none⟩ (.bool b)).setCell ⟨g, i * 3 + 1, none⟩ u1).setCell ⟨g, i * 3 + 2, none⟩ u2).ownsRow base e 3 v n (flat (ts.set i (b, u1, u2))) ∧
    NoInt (((w.setCell ⟨g, i * 3, none⟩ (.bool b)).setCell ⟨g, i * 3 + 1, none⟩ u1).setCell ⟨g, i * 3 + 2, none⟩ u2) v ∧
    w.grownBy (((w.setCell ⟨g, i * 3, none⟩ (.bool b)).setCell ⟨g, i * 3 + 1, none⟩ u1).setCell ⟨g, i * 3 + 2, none⟩ u2) v.ownBlock := by
  rcases h.2 with ⟨rfl, -⟩ | ⟨g', cap, cur, rfl, hb, hgg, hc, hm, hs, ht⟩
  · simp [Value.ownBlock] at hg
  · simp only [Value.ownBlock, Option.some.injEq] at hg
    subst hg
    have hlt : g' < w.heap.size := lt_of_block hgg
    have hset : ∀ (w : World) (cur : Array Value) (j : Nat) (u : Value), w.heap[g']? = some (.cells cur e (0, 0)) → (w.setCell ⟨g', j, none⟩ u).heap[g']? = some (.cells (cur.setIfInBounds j u) e (0, 0)) := by
      intro w cur j u hw
      have hl : g' < w.heap.size := lt_of_block hw
      have hv : w.heap[g'] = .cells cur e (0, 0) := by simpa [Array.getElem?_eq_getElem hl] using hw
      show (w.heap.modify g' _)[g']? = _
      rw [Array.getElem?_eq_getElem (by simpa using hl), Array.getElem_modify_self, hv]
      simp
    have h3 := hset _ _ (i * 3 + 2) u2 (hset _ _ (i * 3 + 1) u1 (hset w cur (i * 3) (.bool b) hgg))
    have hfl := flat_set ts i b u1 u2 hi
    have hlen : (flat ts).length = n * 3 := h.1
    have hlen2 : (flat (ts.set i (b, u1, u2))).length = n * 3 := by rw [flat_length, List.length_set, ← flat_length, hlen]
    refine ⟨⟨hlen2, .inr ⟨g', cap, _, rfl, hb, h3, hc, hm, by simpa using hs, ?_⟩⟩, ?_, ?_⟩
    · rw [← hfl, ← ht]
      simp only [Array.toList_setIfInBounds, List.take_set]
    · intro g hg cur' e' f hc' x hx
      simp only [Value.ownBlock, Option.some.injEq] at hg
      subst hg
      rw [h3] at hc'
      injection hc' with hc'
      injection hc' with h5 h6 h7
      subst h5
      simp only [Array.toList_setIfInBounds] at hx
      rcases List.mem_or_eq_of_mem_set hx with hx | rfl
      · rcases List.mem_or_eq_of_mem_set hx with hx | rfl
        · rcases List.mem_or_eq_of_mem_set hx with hx | rfl
          · exact hn g' rfl cur e (0, 0) hgg x hx
          · intro k q; simp
        · exact hu1
      · exact hu2
    · refine ⟨rfl, rfl, rfl, by simp [World.setCell], fun k hk hne => ?_⟩
      have hkg : g' ≠ k := fun e => hne (by rw [← e]; rfl)
      rw [Below.heap_setCell _ _ _ _ (by exact fun e => hkg e.symm), Below.heap_setCell _ _ _ _ (by exact fun e => hkg e.symm), Below.heap_setCell _ _ _ _ (by exact fun e => hkg e.symm)]

theorem own_cell3 {w : World} {base g n cap : Nat} {e : TypeId} {ts : List T3} (h : w.ownsRow base e 3 (.slice (some ⟨g, 0, none⟩) n cap) n (flat ts)) {i : Nat} (hi : i < ts.length) :
    ∃ b u v, ts[i]? = some (b, u, v) ∧ w.cell? ⟨g, i * 3, none⟩ = some (.bool b) ∧ w.cell? ⟨g, i * 3 + 1, none⟩ = some u ∧ w.cell? ⟨g, i * 3 + 2, none⟩ = some v ∧ ∀ j, w.frozen? ⟨g, j, none⟩ = false := by
  have ht : ts[i]? = some (ts[i]'hi) := List.getElem?_eq_getElem _
  obtain ⟨g1, g2, g3⟩ := flat_get ts i _ ht
  have hadd : ∀ j, (⟨g, 0, none⟩ : Addr).add j = ⟨g, j, none⟩ := fun j => by unfold Addr.add; split <;> simp_all
  have hc := h.cells (g := g) rfl
  refine ⟨_, _, _, ht, by rw [← hadd]; exact hc _ _ g1, by rw [← hadd]; exact hc _ _ g2, by rw [← hadd]; exact hc _ _ g3, fun j => ?_⟩
  rcases h.2 with ⟨h0, -⟩ | ⟨g', cap', cur, h0, -, hgg, -⟩
  · cases h0
  · injection h0 with h0
    injection h0 with h0
    injection h0 with h0
    subst h0
    simp [World.frozen?, hgg]
theorem ite_step {i k : Nat} {P : Prop} [Decidable P] {a b : Rat} (h : ¬ i = k) : (if i < k + 1 ∧ P then a else b) = (if i < k ∧ P then a else b) := by
  by_cases h7 : i < k
  · simp [h7, show i < k + 1 by omega]
  · simp [h7, show ¬ i < k + 1 by omega]
theorem own_slice {w : World} {base n : Nat} {e : TypeId} {v : Value} {xs : List Value} (h : w.ownsRow base e 3 v n xs) (hn : n ≠ 0) : ∃ g cap, v = .slice (some ⟨g, 0, none⟩) n cap ∧ base ≤ g ∧ n ≤ cap ∧ cap ≤ maxLen := by
  rcases h.2 with ⟨-, h0⟩ | ⟨g, cap, cur, rfl, hb, -, hc, hm, -⟩
  · exact absurd h0 hn
  · exact ⟨g, cap, rfl, hb, hc, hm⟩

end Go.Proofs.YtjfkniknmkcdcaaGreatDoor

namespace Go.Proofs.YtjfkniknmkcdcaaGreatDoor
open Go.RowKit K Nu

def fc (i : Nat) : Nat := [1, 1, 2, 6, 24, 120, 720, 5040, 40320, 362880, 3628800].getD i 0
theorem fc_le : ∀ i, i < 11 → 1 ≤ fc i ∧ fc i ≤ 3628800 := by decide
/-- the program's table of factorials -/
def Fac (w : World) : Prop := 0 < w.heap.size ∧ ∀ i, i < 11 → w.cell? ⟨0, i, none⟩ = some (.int .i64 (fc i : Int))
theorem Fac.below {B : Nat} {w w' : World} (h : Fac w) (hb : Below B w w') (hB : w.heap.size ≤ B) : Fac w' :=
  ⟨by have := hb.size; have := h.1; omega, fun i hi => (hb.cell (p := ⟨0, i, none⟩) (by have := h.1; show 0 < B; omega)).trans (h.2 i hi)⟩
/-- in which part of all orders a column comes just behind so many -/
def wt (n k : Nat) : Rat := mkRat ((fc k : Int) * (fc (n - 1 - k) : Int)) (fc n)
def wts (n : Nat) : List Rat := (List.range n).map (wt n)
theorem Tryz.facLen : Tryz.prog.arrayLen 140 = 11 := by kernel_rfl
theorem Tryz.facEl : Tryz.prog.underlying 140 = some (.array (Tryz.prog.arrayLen 140) (Tryz.prog.elem 140)) := by kernel_rfl
theorem Tryz.facSz : (Tryz.prog.info? 2).map (fun i => i.size) = some 1 := by kernel_rfl
theorem Tryz.facIx (i : Nat) (h : i < 11) (wd : World) : (Instr.indexAt 140 (.pointer (some ⟨0, 0, none⟩)) (.int .i64 (i : Int))).run Tryz.prog wd = .ok (.pointer (some ⟨0, i, none⟩)) wd := by
  rw [run_indexAt_array (h := Tryz.facEl), if_pos ⟨by omega, by rw [Tryz.facLen]; omega⟩]
  have h2 := Tryz.facSz
  cases hi : Tryz.prog.info? 2 with
  | none => rw [hi] at h2; cases h2
  | some x =>
    rw [hi] at h2
    simp only [Option.map_some, Option.some.injEq] at h2
    by_cases h0 : i = 0
    · subst h0; simp [sizeOf, typeInfo, hi, h2, go_sem, Addr.add]
    · simp [sizeOf, typeInfo, hi, h2, go_sem, Addr.add, h0]

set_option maxRecDepth 100000 in
set_option maxHeartbeats 8000000 in
theorem weights_any (n : Nat) (w : World) (hn : 1 ≤ n) (hn2 : n ≤ 10) (hF : Fac w) :
    Calls Tryz.prog 63 #[.int .i64 (n : Int)] w fun e w' => ∃ r, e = .returned r ∧ Row3 QV w' r (wts n) ∧ Below w.heap.size w w' := by
  obtain ⟨qs, hqs⟩ : ∃ qs, wts n = qs := ⟨_, rfl⟩
  have hql : qs.length = n := by rw [← hqs]; simp [wts]
  have hqd : ∀ k, k < n → qs.getD k 0 = wt n k := fun k hk => by
    rw [← hqs, List.getD_eq_getElem?_getD]; simp [wts, hk]
  rw [hqs]
  have HL := Lib.hid hql
  have HQD := Lib.hid hqd
  have HF := Lib.hid hF
  clear hqs hql hqd hF
  obtain ⟨i0, hi, hz0, hz1, hz2⟩ := info_parts Tryz.infoQ
  go_enter Tryz.func63, Tryz.ntmps63
  go_wp2
  go_loopw [3, 8] (fun o i wr => ∃ (k : Nat) (ts : List T3), k ≤ n ∧ i = .int .i64 k ∧ Hid (ts.length = k) ∧ wr.ownsRow w.heap.size 40 3 o k (flat ts) ∧ NoInt wr o ∧ Hid (∀ (i : Nat) (t : T3) (q : Rat), ts[i]? = some t → qs[i]? = some q → QV wr t.1 t.2.1 t.2.2 q) ∧ Below w.heap.size w wr) (fun _ i _ => n - (intOf i).toNat)
  case atStart => exact ⟨0, [], by omega, rfl, Lib.hid rfl, World.ownsRow_nil _ _ _ _, NoInt.nil _, Lib.hid (by simp), Below.refl _ _⟩
  case round =>
    obtain ⟨k, ts, hk, rfl, hts, hown, hno, hq, hbel⟩ := hrel
    by_cases hlt : k < n
    · have hF2 := HF.out.below hbel (Nat.le_refl _)
      have hqk := HQD.out k hlt
      have y0 := hF2.2 k (by omega)
      obtain ⟨m, hm⟩ : ∃ m, n - 1 - k = m := ⟨_, rfl⟩
      have hm1 : (n : Int) - 1 - k = m := by omega
      have hm2 : m < 11 := by omega
      have hw2 : IntKind.i64.wrap (m : Int) = m := by rw [IntKind.wrap_i64]; omega
      have hw3 : IntKind.i64.wrap ((n : Int) - 1) = n - 1 := by rw [IntKind.wrap_i64]; omega
      have hw4 : IntKind.i64.wrap ((n : Int) - 1 - k) = m := by rw [IntKind.wrap_i64]; omega
      have y1 := hF2.2 m (by omega)
      have y2 := hF2.2 n (by omega)
      have hg0 := hF2.1
      have ix0 := Tryz.facIx k (by omega)
      have ix1 := Tryz.facIx m (by omega)
      have ix2 := Tryz.facIx n (by omega)
      have hla := fc_le k (by omega)
      have hlb := fc_le m (by omega)
      have hlc := fc_le n (by omega)
      unfold wt at hqk
      rw [hm] at hqk
      clear hF2
      generalize fc k = a at *
      generalize fc m = b at *
      generalize fc n = c at *
      have hab : (a * b : Nat) ≤ 3628800 * 3628800 := Nat.mul_le_mul hla.2 hlb.2
      obtain ⟨p, hp⟩ : ∃ p : Int, (a : Int) * (b : Int) = p := ⟨_, rfl⟩
      have hp0 : 0 ≤ p ∧ p ≤ 13168189440000 := by
        rw [← hp, ← Int.natCast_mul]
        omega
      rw [hp] at hqk
      have hw1 : IntKind.i64.wrap p = p := by rw [IntKind.wrap_i64]; omega
      have hO := fun wd => over_pos p c wd (by omega) (by omega) (by omega) (by omega)
      rw [← hqk] at hO
      replace hO := Lib.hid hO
      have hgn : ¬ wr.heap.size = 0 := by omega
      have hng : ¬ 0 = wr.heap.size := by omega
      clear hqk hab hla hlb hlc hp0 hm
      go_upto_region 6 with fail
      go_cut [5] (fun u wc => ∃ (pp : Nat) (b' : Bool) (A1 : Option Addr) (k1 c1 : Nat) (A2 : Option Addr) (k2 c2 : Nat), u = .pointer (some ⟨pp, 0, none⟩) ∧ Blk wc pp [.bool b', .slice A1 k1 c1, .slice A2 k2 c2] 40 ∧ QV wc b' (.slice A1 k1 c1) (.slice A2 k2 c2) (qs.getD k 0) ∧ Below wr.heap.size wr wc)
      case first =>
        go_region_held3 (fun w' => w'.cell? ⟨0, k, none⟩ = some (Value.int IntKind.i64 (a : Int)) ∧ w'.cell? ⟨0, m, none⟩ = some (Value.int IntKind.i64 (b : Int)) ∧ w'.cell? ⟨0, n, none⟩ = some (Value.int IntKind.i64 (c : Int))) (go_keep)
          (first
            | ((go_at_call 100; refine (hO.out _).mono ?_; rintro e w_1 ⟨b', v5, v6, rfl, hq', hb_1⟩; have hx_1 : Below wr.heap.size wr w_1 := bel_step hb_1 (by ((repeat (first | with_reducible exact Below.refl _ _ | with_reducible refine Below.drew ?_ | with_reducible refine Below.alloc' ?_ _)); done)); have lw_1 : wr.heap.size ≤ w_1.heap.size := hx_1.size; obtain ⟨A1, k1, c1, A2, k2, c2, rfl, rfl⟩ := hq'.slices; have q0 : w_1.cell? ⟨0, k, none⟩ = some (Value.int IntKind.i64 (a : Int)) := (hx_1.cell (p := ⟨0, k, none⟩) hg0).trans y0; have q1 : w_1.cell? ⟨0, m, none⟩ = some (Value.int IntKind.i64 (b : Int)) := (hx_1.cell (p := ⟨0, m, none⟩) hg0).trans y1; have q2 : w_1.cell? ⟨0, n, none⟩ = some (Value.int IntKind.i64 (c : Int)) := (hx_1.cell (p := ⟨0, n, none⟩) hg0).trans y2; have nq : ¬ w_1.heap.size = 0 := Nat.ne_of_gt (Nat.lt_of_lt_of_le hg0 lw_1); have qn : ¬ 0 = w_1.heap.size := Nat.ne_of_lt (Nat.lt_of_lt_of_le hg0 lw_1); (first | (have u_1 := new_d rfl hb_1; have ua := u_1.c0; have ub := u_1.c1; have uc := u_1.c2; have ud := u_1.frozen 0; have ue := u_1.frozen 1; have uf := u_1.frozen 2; have ul := u_1.lt) | skip); clear hb_1))
            | ((fail)))
        all_goals (go_wp2_with fail; go_meet)
        all_goals
          refine ⟨_, b', A1, k1, c1, A2, k2, c2, rfl, ?_, ⟨⟨?_, hq'.1.2⟩, ?_⟩, ?_⟩
          · have hqa := hq'.1.1; ((repeat (first | with_reducible assumption | with_reducible exact Blk.mk _ _ (by (simp; done)) _ _ | with_reducible exact Blk.new _ _ _ | with_reducible refine Blk.set3 (a := .bool false) (b := .slice none 0 0) (c := .slice none 0 0) ?_ | with_reducible refine Blk.far3 ?_ (by omega) | with_reducible refine Blk.alloc ?_ _ | with_reducible refine Blk.drew ?_)); done)
          · have hqa := hq'.1.1; ((repeat (first | with_reducible assumption | with_reducible refine NatV.box3 (a := .bool false) (b := .slice none 0 0) (c := .slice none 0 0) (T := 40) ?_ (by ((repeat (first | with_reducible assumption | with_reducible exact Blk.mk _ _ (by (simp; done)) _ _ | with_reducible exact Blk.new _ _ _ | with_reducible refine Blk.set3 (a := .bool false) (b := .slice none 0 0) (c := .slice none 0 0) ?_ | with_reducible refine Blk.far3 ?_ (by omega) | with_reducible refine Blk.alloc ?_ _ | with_reducible refine Blk.drew ?_)); done)) (by simp) (by simp) | with_reducible refine NatV.alloc ?_ _)); done)
          · have hqa := hq'.2; ((repeat (first | with_reducible assumption | with_reducible refine NatV.box3 (a := .bool false) (b := .slice none 0 0) (c := .slice none 0 0) (T := 40) ?_ (by ((repeat (first | with_reducible assumption | with_reducible exact Blk.mk _ _ (by (simp; done)) _ _ | with_reducible exact Blk.new _ _ _ | with_reducible refine Blk.set3 (a := .bool false) (b := .slice none 0 0) (c := .slice none 0 0) ?_ | with_reducible refine Blk.far3 ?_ (by omega) | with_reducible refine Blk.alloc ?_ _ | with_reducible refine Blk.drew ?_)); done)) (by simp) (by simp) | with_reducible refine NatV.alloc ?_ _)); done)
          · ((repeat (first | with_reducible assumption | with_reducible refine Below.set3 ?_ (by omega) | with_reducible refine Below.alloc' ?_ _)); done)
      case rest =>
        obtain ⟨pp, b', A1, k1, c1, A2, k2, c2, rfl, P, hv, hb1⟩ := hcut
        have x0 := P.c0
        have x1 := P.c1
        have x2 := P.c2
        have hbel1 := hbel.trans (hb1.mono hbel.size)
        have hown1 := own_below hown hb1
        have hno1 := noint_below hown hno hb1
        clear y0 y1 y2 hg0 hgn hng hO ix0 ix1 ix2
        go_wp2_with ((at_builtin; refine wpList_append_noint rfl _ _ 29 rfl w.heap.size 40 i0 (.agg #[.bool false, .slice none 0 0, .slice none 0 0]) 3 56 Tryz.underlying29 hi hz0 hz1 hz2 rfl (by decide) _ _ _ rfl (hown1.alloc _) (noint_alloc hown1 hno1 _) z3_no ⟨wc.heap.size, 0, none⟩ 1 1 [.bool b', .slice A1 k1 c1, .slice A2 k2 c2] rfl rfl ?c1 ?c2 ?c3 (by decide) ?c4 ?c5 ?c6 ?_))
        case c1 => intro t u hu; rcases t with _ | _ | _ | t <;> simp at hu <;> subst hu <;> simp [Addr.add]
        case c2 => intro u hu; simp at hu; rcases hu with rfl | rfl | rfl <;> rfl
        case c3 => intro u hu; simp at hu; rcases hu with rfl | rfl | rfl <;> simp
        case c4 => unfold maxLen; omega
        case c5 => omega
        case c6 => simp; have := hb1.size; have := hbel.size; omega
        intro v' w2 hown' hgrow hno'
        have hbel2 : Below w.heap.size w w2 := (hbel1.alloc hbel1.size _).grown hgrow (by simp; have := hbel1.size; omega) (fun q hq => by have := (hown1.lt q hq).1; omega)
        have hq2 : ∀ (i : Nat) (t : T3) (q : Rat), (ts ++ [(b', .slice A1 k1 c1, .slice A2 k2 c2)])[i]? = some t → qs[i]? = some q → QV w2 t.1 t.2.1 t.2.2 q :=
          facts_snoc (fun i t q ht hqi => (((hq.out i t q ht hqi).below hb1 (Nat.le_refl _)).alloc _).grown (hown1.alloc _) (noint_alloc hown1 hno1 _) hgrow) (fun q hqq => by
            rw [hts.out, List.getElem?_eq_getElem (by rw [HL.out]; exact hlt)] at hqq
            simp only [Option.some.injEq] at hqq
            rw [List.getD_eq_getElem?_getD, List.getElem?_eq_getElem (by rw [HL.out]; exact hlt), Option.getD_some, hqq] at hv
            exact (hv.alloc _).grown (hown1.alloc _) (noint_alloc hown1 hno1 _) hgrow)
        have hown2 : w2.ownsRow w.heap.size 40 3 v' (k + 1) (flat (ts ++ [(b', .slice A1 k1 c1, .slice A2 k2 c2)])) := by rw [flat_append]; exact hown'
        have HQ2 := Lib.hid hq2
        clear hq2 hown' hgrow hown1 hno1 hv hb1 hbel1 hbel hown hno hq
        clear P x0 x1 x2
        go_wp2
        go_roundw
        case rel => exact ⟨k + 1, _, by omega, by go_num, Lib.hid (by simp [hts.out]), hown2, hno', HQ2, hbel2⟩
        case measure => simp [intOf]; omega
    · obtain rfl : k = n := by omega
      go_wp2
      go_ret
      exact ⟨_, rfl, own_row3 hown (by rw [HL.out]) (by rw [hts.out, HL.out]) hq.out, hbel⟩

end Go.Proofs.YtjfkniknmkcdcaaGreatDoor
