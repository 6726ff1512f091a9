/- The plain law of ShareFair: shares add up, are additive, are nought for a column without influence; turns add up to the same. No walk. -/
import Derived.Test.YtjfkniknmkcdcaaGreatDoorMBt
namespace Go.Proofs.YtjfkniknmkcdcaaGreatDoor
open Go.RowKit K Nu

/-- a set without a column -/
def clr (s d : Nat) : Nat := if s.testBit d then s - 2 ^ d else s
theorem clr_all : ∀ d, d < 4 → ∀ s, s < 16 → clr s d ≤ s ∧ (clr s d).testBit d = false ∧ clr (s ||| 2 ^ d) d = clr s d ∧ (s.testBit d = false → clr s d = s) := by decide +kernel
/-- a table in which a column has no influence -/
def ymod (y : List Rat) (d : Nat) : List Rat := (List.range y.length).map fun s => y.getD (clr s d) 0
def addL (x y : List Rat) : List Rat := (List.range x.length).map fun s => x.getD s 0 + y.getD s 0
theorem getD_map {n : Nat} {f : Nat → Rat} (s : Nat) : ((List.range n).map f).getD s 0 = if s < n then f s else 0 := by
  by_cases h : s < n
  · rw [if_pos h, List.getD_eq_getElem?_getD, List.getElem?_map, List.getElem?_range h]; rfl
  · rw [if_neg h, List.getD_eq_getElem?_getD, List.getElem?_eq_none (by simp; omega)]; rfl
theorem getD_none {l : List Rat} {s : Nat} (h : l.length ≤ s) : l.getD s 0 = 0 := by rw [List.getD_eq_getElem?_getD, List.getElem?_eq_none h]; rfl
theorem ymod_tab {y : List Rat} {z : Nat → Int} {B : Int} (h : Tab y z B) (d : Nat) : Tab (ymod y d) (fun s => if s < y.length then z (clr s d) else 0) B := by
  have h0 := h.2 0
  refine ⟨fun s => ?_, fun s => ?_⟩
  · rw [ymod, getD_map]
    by_cases hs : s < y.length
    · simp only [if_pos hs]; exact h.1 _
    · simp only [if_neg hs]; rw [lat_zero]
  · by_cases hs : s < y.length
    · simp only [if_pos hs]; exact h.2 _
    · simp only [if_neg hs]; omega
theorem add_tab {x y : List Rat} {zx zy : Nat → Int} {B C : Int} (hx : Tab x zx B) (hy : Tab y zy C) (hl : x.length = y.length) : Tab (addL x y) (fun s => zx s + zy s) (B + C) := by
  refine ⟨fun s => ?_, fun s => ?_⟩
  · rw [addL, getD_map, ← lat_add, ← hx.1, ← hy.1]
    by_cases hs : s < x.length
    · rw [if_pos hs]
    · rw [if_neg hs, getD_none (by omega), getD_none (by omega), Rat.add_zero]
  · have := hx.2 s; have := hy.2 s
    show -(B + C) ≤ zx s + zy s ∧ zx s + zy s ≤ B + C
    omega
theorem accz_add (zx zy : Nat → Int) (n c : Nat) : ∀ s, accz (fun s => zx s + zy s) n c s = accz zx n c s + accz zy n c s
  | 0 => rfl
  | s + 1 => by
    rw [accz, accz, accz, accz_add zx zy n c s]
    split
    · omega
    · have e : zx (s ||| 2 ^ c) + zy (s ||| 2 ^ c) - (zx s + zy s) = (zx (s ||| 2 ^ c) - zx s) + (zy (s ||| 2 ^ c) - zy s) := by omega
      rw [e, Int.mul_add]
      omega
theorem shs_get {v : List Rat} {n c : Nat} (hc : c < n) : (shs v n).getD c 0 = acc v n c (2 ^ n) := by rw [shs, getD_map, if_pos hc]
theorem shs_add {x y : List Rat} {zx zy : Nat → Int} {B C : Int} (hx : Tab x zx B) (hy : Tab y zy C) (hl : x.length = y.length) {n c : Nat} (hn : n ≤ 4) (hc : c < n) :
    (shs x n).getD c 0 + (shs y n).getD c 0 = (shs (addL x y) n).getD c 0 := by
  rw [shs_get hc, shs_get hc, shs_get hc, acc_accz hx (by omega) hc _ (Nat.le_refl _), acc_accz hy (by omega) hc _ (Nat.le_refl _), acc_accz (add_tab hx hy hl) (by omega) hc _ (Nat.le_refl _), accz_add, lat_add]
theorem shs_dumb {y : List Rat} {z : Nat → Int} {B : Int} (h : Tab y z B) {n d : Nat} (hn : n ≤ 4) (hd : d < n) (hl : y.length = 2 ^ n) : (shs (ymod y d) n).getD d 0 = 0 := by
  rw [shs_get hd, acc_accz (ymod_tab h d) (by omega) hd _ (Nat.le_refl _)]
  have h16 : 2 ^ n ≤ 16 := Nat.le_trans (Nat.pow_le_pow_right (by decide) hn) (by decide)
  have key : ∀ s, s ≤ 2 ^ n → accz (fun s => if s < y.length then z (clr s d) else 0) n d s = 0 := by
    intro s
    induction s with
    | zero => intro _; rfl
    | succ s ih =>
      intro hs
      rw [accz, ih (by omega)]
      by_cases hb : s.testBit d = true
      · rw [if_pos hb]; rfl
      · have h1 : s ||| 2 ^ d < 2 ^ n := Nat.or_lt_two_pow (by omega) (Nat.pow_lt_pow_right (by decide) hd)
        have h2 := (clr_all d (by omega) s (by omega)).2.2.1
        rw [if_neg hb]
        rw [if_pos (by omega), if_pos (by omega), h2, Int.sub_self, Int.mul_zero]
        rfl
  rw [key _ (Nat.le_refl _), lat_zero]
/-- the sum of a list's first numbers -/
def ps (l : List Rat) : Nat → Rat
  | 0 => 0
  | k + 1 => ps l k + l.getD k 0
def sz (f : Nat → Int) : Nat → Int
  | 0 => 0
  | k + 1 => sz f k + f k
theorem ps_sz {l : List Rat} {D : Nat} {f : Nat → Int} : ∀ k, (∀ c, c < k → l.getD c 0 = lat D (f c)) → ps l k = lat D (sz f k)
  | 0, _ => by rw [ps, sz, lat_zero]
  | k + 1, h => by rw [ps, sz, ps_sz k (fun c hc => h c (by omega)), h k (by omega), lat_add]
theorem sz_le {f : Nat → Int} {B : Int} (h : ∀ c, -B ≤ f c ∧ f c ≤ B) : ∀ k : Nat, -(B * k) ≤ sz f k ∧ sz f k ≤ B * k
  | 0 => by simp [sz]
  | k + 1 => by
    have h1 := sz_le h k
    have h2 := h k
    rw [sz, Int.natCast_add, Int.mul_add]
    generalize B * (k : Int) = X at *
    omega

set_option maxRecDepth 100000 in
theorem fair_1 (z : Nat → Int) : sz (fun c => accz z 1 c 2) 1 = 2520 * (z 1 - z 0) := by
  rw [show sz (fun c => accz z 1 c 2) 1 = 0 + (0 + ((2520 : Nat) : Int) * (z 1 - z 0) + 0) from rfl]
  omega
set_option maxRecDepth 100000 in
theorem fair_2 (z : Nat → Int) : sz (fun c => accz z 2 c 4) 2 = 2520 * (z 3 - z 0) := by
  rw [show sz (fun c => accz z 2 c 4) 2 = (0 + (0 + ((1260 : Nat) : Int) * (z 1 - z 0) + 0 + ((1260 : Nat) : Int) * (z 3 - z 2) + 0)) + (0 + ((1260 : Nat) : Int) * (z 2 - z 0) + ((1260 : Nat) : Int) * (z 3 - z 1) + 0 + 0) from rfl]
  omega
set_option maxRecDepth 100000 in
theorem fair_3 (z : Nat → Int) : sz (fun c => accz z 3 c 8) 3 = 2520 * (z 7 - z 0) := by
  rw [show sz (fun c => accz z 3 c 8) 3 = ((0 + (0 + ((840 : Nat) : Int) * (z 1 - z 0) + 0 + ((420 : Nat) : Int) * (z 3 - z 2) + 0 + ((420 : Nat) : Int) * (z 5 - z 4) + 0 + ((840 : Nat) : Int) * (z 7 - z 6) + 0)) + (0 + ((840 : Nat) : Int) * (z 2 - z 0) + ((420 : Nat) : Int) * (z 3 - z 1) + 0 + 0 + ((420 : Nat) : Int) * (z 6 - z 4) + ((840 : Nat) : Int) * (z 7 - z 5) + 0 + 0)) + (0 + ((840 : Nat) : Int) * (z 4 - z 0) + ((420 : Nat) : Int) * (z 5 - z 1) + ((420 : Nat) : Int) * (z 6 - z 2) + ((840 : Nat) : Int) * (z 7 - z 3) + 0 + 0 + 0 + 0) from rfl]
  omega
set_option maxRecDepth 100000 in
theorem fair_4 (z : Nat → Int) : sz (fun c => accz z 4 c 16) 4 = 2520 * (z 15 - z 0) := by
  rw [show sz (fun c => accz z 4 c 16) 4 = (((0 + (0 + ((630 : Nat) : Int) * (z 1 - z 0) + 0 + ((210 : Nat) : Int) * (z 3 - z 2) + 0 + ((210 : Nat) : Int) * (z 5 - z 4) + 0 + ((210 : Nat) : Int) * (z 7 - z 6) + 0 + ((210 : Nat) : Int) * (z 9 - z 8) + 0 + ((210 : Nat) : Int) * (z 11 - z 10) + 0 + ((210 : Nat) : Int) * (z 13 - z 12) + 0 + ((630 : Nat) : Int) * (z 15 - z 14) + 0)) + (0 + ((630 : Nat) : Int) * (z 2 - z 0) + ((210 : Nat) : Int) * (z 3 - z 1) + 0 + 0 + ((210 : Nat) : Int) * (z 6 - z 4) + ((210 : Nat) : Int) * (z 7 - z 5) + 0 + 0 + ((210 : Nat) : Int) * (z 10 - z 8) + ((210 : Nat) : Int) * (z 11 - z 9) + 0 + 0 + ((210 : Nat) : Int) * (z 14 - z 12) + ((630 : Nat) : Int) * (z 15 - z 13) + 0 + 0)) + (0 + ((630 : Nat) : Int) * (z 4 - z 0) + ((210 : Nat) : Int) * (z 5 - z 1) + ((210 : Nat) : Int) * (z 6 - z 2) + ((210 : Nat) : Int) * (z 7 - z 3) + 0 + 0 + 0 + 0 + ((210 : Nat) : Int) * (z 12 - z 8) + ((210 : Nat) : Int) * (z 13 - z 9) + ((210 : Nat) : Int) * (z 14 - z 10) + ((630 : Nat) : Int) * (z 15 - z 11) + 0 + 0 + 0 + 0)) + (0 + ((630 : Nat) : Int) * (z 8 - z 0) + ((210 : Nat) : Int) * (z 9 - z 1) + ((210 : Nat) : Int) * (z 10 - z 2) + ((210 : Nat) : Int) * (z 11 - z 3) + ((210 : Nat) : Int) * (z 12 - z 4) + ((210 : Nat) : Int) * (z 13 - z 5) + ((210 : Nat) : Int) * (z 14 - z 6) + ((630 : Nat) : Int) * (z 15 - z 7) + 0 + 0 + 0 + 0 + 0 + 0 + 0 + 0) from rfl]
  omega
/-- shares add up to the worth of all columns minus that of none -/
theorem shs_sum {v : List Rat} {z : Nat → Int} {B : Int} (h : Tab v z B) {n : Nat} (h1 : 1 ≤ n) (hn : n ≤ 4) : ps (shs v n) n = v.getD (2 ^ n - 1) 0 - v.getD 0 0 := by
  rw [ps_sz n (fun c hc => by rw [shs_get hc]; exact acc_accz h (by omega) hc _ (Nat.le_refl _)), h.1, h.1, lat_sub]
  have e : sz (fun c => accz z n c (2 ^ n)) n = 2520 * (z (2 ^ n - 1) - z 0) := by
    obtain rfl | rfl | rfl | rfl : n = 1 ∨ n = 2 ∨ n = 3 ∨ n = 4 := by omega
    · exact fair_1 z
    · exact fair_2 z
    · exact fair_3 z
    · exact fair_4 z
  rw [e, lat_mk, lat_mk, Rat.mkRat_eq_iff (by decide) (by decide)]
  omega
theorem shs_part {v : List Rat} {z : Nat → Int} {B : Int} (h : Tab v z B) (hB : B ≤ 1000) {n k : Nat} (hn : n ≤ 4) (hk : k ≤ n) : Short (ps (shs v n) k) := by
  have h0 := h.2 0
  rw [ps_sz k (fun c hc => by rw [shs_get (by omega)]; exact acc_accz h (by omega) (by omega) _ (Nat.le_refl _))]
  have hb : ∀ c, -(2 * 1000 * 2520) ≤ (fun c => if c < n then accz z n c (2 ^ n) else 0) c ∧ (fun c => if c < n then accz z n c (2 ^ n) else 0) c ≤ 2 * 1000 * 2520 := by
    intro c
    by_cases hc : c < n
    · simp only [if_pos hc]
      have h1 := accz_le h.2 (n := n) (c := c) (2 ^ n)
      have hZ := Zs_le (n := n) (c := c) (s := 2 ^ n) (by omega) hc (Nat.le_refl _)
      have h2 : 2 * B * (Zs n c (2 ^ n) : Int) ≤ 2 * 1000 * 2520 := Int.mul_le_mul (by omega) (by omega) (by omega) (by omega)
      omega
    · simp only [if_neg hc]; decide
  have e : ∀ k, k ≤ n → sz (fun c => accz z n c (2 ^ n)) k = sz (fun c => if c < n then accz z n c (2 ^ n) else 0) k := by
    intro k
    induction k with
    | zero => intro _; rfl
    | succ k ih => intro hk; rw [sz, sz, ih (by omega), if_pos (by omega)]
  rw [e k hk]
  have h3 := sz_le hb k
  have h4 : (2 * 1000 * 2520 : Int) * k ≤ 2 * 1000 * 2520 * 4 := Int.mul_le_mul_of_nonneg_left (by omega) (by decide)
  exact lat_short (by decide) (by decide) (by omega) (by omega)
theorem sz_upd {d : Nat → Int} {o : Nat} {e : Int} : ∀ n, sz (fun c => if o = c then e else d c) n = sz d n + (if o < n then e - d o else 0)
  | 0 => by simp [sz]
  | n + 1 => by
    rw [sz, sz, sz_upd n]
    by_cases h : o = n
    · subst h
      rw [if_pos rfl, if_neg (Nat.lt_irrefl _), if_pos (Nat.lt_succ_self _)]; omega
    · rw [if_neg h]
      by_cases h2 : o < n
      · rw [if_pos h2, if_pos (by omega)]; omega
      · rw [if_neg h2, if_neg (by omega)]; omega
theorem tz_sum (z : Nat → Int) (n : Nat) : ∀ (os : List Nat) (s : Nat) (d : Nat → Int), os.Nodup → (∀ c, c ∈ os → c < n ∧ d c = 0) → sz (fun c => tz z os s c (d c)) n = sz d n + (z (hav os s) - z s)
  | [], s, d, _, _ => by
    show sz d n = sz d n + (z s - z s)
    omega
  | o :: os, s, d, hn, hc => by
    rw [List.nodup_cons] at hn
    have h1 := hc o (by simp)
    have ih := tz_sum z n os (s ||| 2 ^ o) (fun c => if o = c then z (s ||| 2 ^ o) - z s else d c) hn.2 (fun c hm => ⟨(hc c (by simp [hm])).1, by
      have : ¬ o = c := fun e => hn.1 (e ▸ hm)
      simp only [if_neg this]
      exact (hc c (by simp [hm])).2⟩)
    show sz (fun c => tz z os (s ||| 2 ^ o) c (if o = c then z (s ||| 2 ^ o) - z s else d c)) n = sz d n + (z (hav os (s ||| 2 ^ o)) - z s)
    rw [ih, sz_upd, if_pos h1.1, h1.2]
    omega
theorem tset_sum {v : List Rat} {z : Nat → Int} {B : Int} (h : Tab v z B) {n : Nat} {os : List Nat} (hnd : os.Nodup) (hc : ∀ c, c ∈ os → c < n) (hall : hav os 0 = 2 ^ n - 1) :
    ps (tset v os 0 (List.replicate n 0)) n = v.getD (2 ^ n - 1) 0 - v.getD 0 0 := by
  rw [ps_sz (D := 12) (f := fun c => tz z os 0 c 0) n (fun c hcn => tset_tz h os 0 _ 0 (by simpa using hcn) (by rw [List.getD_eq_getElem?_getD, List.getElem?_replicate, if_pos hcn, lat_zero]; rfl)), h.1, h.1, lat_sub]
  have := tz_sum z n os 0 (fun _ => 0) hnd (fun c hm => ⟨hc c hm, rfl⟩)
  rw [this, hall]
  have h0 : ∀ n, sz (fun _ => 0) n = 0 := by
    intro n
    induction n with
    | zero => rfl
    | succ n ih => rw [sz, ih]; rfl
  rw [h0, Int.zero_add]
theorem tset_part {v : List Rat} {z : Nat → Int} {B : Int} (h : Tab v z B) (hB : B ≤ 1000) {n k : Nat} (hn : n ≤ 4) (hk : k ≤ n) {os : List Nat} : Short (ps (tset v os 0 (List.replicate n 0)) k) := by
  have h0 := h.2 0
  rw [ps_sz (D := 12) (f := fun c => tz z os 0 c 0) k (fun c hcn => tset_tz h os 0 _ 0 (by simp; omega) (by rw [List.getD_eq_getElem?_getD, List.getElem?_replicate, if_pos (by omega), lat_zero]; rfl))]
  have hb : ∀ c, -2000 ≤ (fun c => tz z os 0 c 0) c ∧ (fun c => tz z os 0 c 0) c ≤ 2000 := by
    intro c
    have := tz_le h.2 (c := c) os 0 0 (by omega)
    exact ⟨by simp only; omega, by simp only; omega⟩
  have h3 := sz_le hb k
  have h4 : (2000 : Int) * k ≤ 2000 * 4 := Int.mul_le_mul_of_nonneg_left (by omega) (by decide)
  exact lat_short (by decide) (by decide) (by omega) (by omega)
theorem tset_each {v : List Rat} {z : Nat → Int} {B : Int} (h : Tab v z B) (hB : B ≤ 1000) {n : Nat} {os : List Nat} : ∀ q, q ∈ tset v os 0 (List.replicate n 0) → Short q := by
  have h0 := h.2 0
  intro q hq
  obtain ⟨c, hc, rfl⟩ := List.mem_iff_getElem.1 hq
  have hcn : c < n := by rw [tset_len, List.length_replicate] at hc; exact hc
  have e := tset_tz h os 0 (List.replicate n 0) 0 (c := c) (by simpa using hcn) (by rw [List.getD_eq_getElem?_getD, List.getElem?_replicate, if_pos hcn, lat_zero]; rfl)
  rw [List.getD_eq_getElem?_getD, List.getElem?_eq_getElem hc, Option.getD_some] at e
  rw [e]
  have := tz_le h.2 (c := c) os 0 0 (by omega)
  exact lat_short (by decide) (by decide) (by omega) (by omega)
/-- the order that permuted makes -/
def prm (lo : List Int) : Nat → List Nat
  | 0 => []
  | i + 1 => insAt (prm lo i) (if i < lo.length then (lo.getD i 0 % ((i : Int) + 1)).toNat else 0) i
theorem insAt_perm (l : List Nat) (k x : Nat) : (insAt l k x).Perm (x :: l) := by
  have h : (insAt l k x).Perm (x :: (l.take k ++ l.drop k)) := List.perm_middle
  rw [List.take_append_drop] at h
  exact h
theorem insAt_len (l : List Nat) (k x : Nat) : (insAt l k x).length = l.length + 1 := (insAt_perm l k x).length_eq
theorem prm_all (lo : List Int) : ∀ i, (prm lo i).length = i ∧ (∀ c, c ∈ prm lo i → c < i) ∧ (prm lo i).Nodup
  | 0 => ⟨rfl, by simp [prm], List.nodup_nil⟩
  | i + 1 => by
    obtain ⟨h1, h2, h3⟩ := prm_all lo i
    have hp := insAt_perm (prm lo i) (if i < lo.length then (lo.getD i 0 % ((i : Int) + 1)).toNat else 0) i
    refine ⟨by rw [prm, insAt_len, h1], fun c hc => ?_, ?_⟩
    · rcases List.mem_cons.1 (hp.mem_iff.1 hc) with rfl | h
      · omega
      · have := h2 c h; omega
    · rw [prm, hp.nodup_iff, List.nodup_cons]
      exact ⟨fun h => by have := h2 _ h; omega, h3⟩
end Go.Proofs.YtjfkniknmkcdcaaGreatDoor
