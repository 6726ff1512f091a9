/- The walks of share's Worth, Turns. (printed by wip/gen/sf.py) -/
import Derived.Test.YtjfkniknmkcdcaaGreatDoorMSd
import Derived.Test.YtjfkniknmkcdcaaGreatDoorMKn
namespace Go.Proofs.YtjfkniknmkcdcaaGreatDoor
open Go.RowKit K Nu


set_option maxRecDepth 100000 in
set_option maxHeartbeats 20000000 in
theorem worth_any (x y : Value) (v : List Rat) (hs : List Bool) (n : Nat) (w : World) (h : Row3 QV w x v) (hb : IsBools w y hs) (hc : cols v.length = n) (hn : n ≠ 0) (hl : hs.length = n) :
    Calls Tryz.prog 9 #[x, y] w fun e w' => ∃ b vn vr t, e = .returned (.tuple #[.agg #[.bool b, vn, vr], .int .i64 0]) ∧ t < v.length ∧ (∀ i, t.testBit i = (decide (i < n) && hs.getD i false)) ∧ QV w' b vn vr (v.getD t 0) ∧ Below w.heap.size w w' := by
  have h2 := cols_le v.length
  rw [hc] at h2
  have hvl := h2.2 hn
  have hn10 := h2.1
  obtain ⟨A1, c1, rfl, -, -, hat⟩ := h.at
  obtain ⟨A2, c2, rfl, hlc2, hcb⟩ := hb
  obtain ⟨L, hL⟩ : ∃ L, v.length = L := ⟨_, rfl⟩
  rw [hL] at hat hvl hc ⊢
  rw [hl] at hcb hlc2 ⊢
  have hC := fun wd => columns_any A1 L c1 wd
  rw [hc] at hC
  have HC := Lib.hid hC
  have HL := Lib.hid (And.intro hL hvl)
  have hL1 : L ≤ 1024 := by rw [hvl]; exact Nat.le_trans (Nat.pow_le_pow_right (by decide) hn10) (by decide)
  have B0 := Blk.new w [.bool false, .slice none 0 0, .slice none 0 0] 40
  have HB := Lib.hid B0
  have t1 : ((n : Int) == 0) = false := beq_eq_false_iff_ne.2 (by omega)
  clear h2 hC hc hvl hL h B0
  go_enter Tryz.func9, Tryz.ntmps9
  go_wp2_with fail
  refine (HC.out _).mono ?_
  rintro e w1 ⟨rfl, rfl⟩
  go_wp2_with fail
  go_loopw [7, 23] (fun s i wr => ∃ (k t : Nat), k ≤ n ∧ i = .int .i64 k ∧ s = .int .i64 t ∧ t < 1024 ∧ Hid (∀ i, t.testBit i = (decide (i < k) && hs.getD i false)) ∧ wr = w.alloc (.cells #[.bool false, .slice none 0 0, .slice none 0 0] 40)) (fun _ i _ => n - (intOf i).toNat)
  case atStart => exact ⟨0, 0, by omega, rfl, rfl, by omega, Lib.hid (fun i => by simp), rfl⟩
  case round =>
    obtain ⟨k, t, hk, rfl, rfl, ht16, htb, rfl⟩ := hrel
    by_cases hlt : k < n
    · have hk10 : k < 10 := by omega
      have hpz : (2 : Int) ^ k = ((2 ^ k : Nat) : Int) := by rw [Int.natCast_pow]; rfl
      have hk2 : (2 : Nat) ^ k < 2 ^ 10 := Nat.pow_lt_pow_right (by decide) hk10
      have ht2 : t ||| 2 ^ k < 1024 := Nat.or_lt_two_pow (n := 10) ht16 hk2
      have hor : bits .or .i64 (t : Int) (2 ^ k) = ((t ||| 2 ^ k : Nat) : Int) := by
        rw [hpz]
        exact Tryz.or_i64 (by omega) (Nat.lt_trans hk2 (by decide))
      have hw : IntKind.i64.wrap ((2 : Int) ^ k) = 2 ^ k := by
        rw [hpz, IntKind.wrap_i64]
        rw [show (2 : Nat) ^ 10 = 1024 from rfl] at hk2
        generalize (2 : Nat) ^ k = X at *
        omega
      obtain ⟨t', ht'⟩ : ∃ t', t ||| 2 ^ k = t' := ⟨_, rfl⟩
      rw [ht'] at hor ht2
      have HTB := Lib.hid (show ∀ i, t'.testBit i = (t.testBit i || decide (k = i)) from fun i => by rw [← ht', Nat.testBit_or, Nat.testBit_two_pow])
      obtain ⟨b3, o3, rfl, hb3, hc3⟩ := hcb (by omega)
      have z0 : (w.alloc (.cells #[.bool false, .slice none 0 0, .slice none 0 0] 40)).cell? ⟨b3, o3 + k, none⟩ = some (.bool (hs.getD k false)) := by rw [World.cell?_alloc_lt w (a := ⟨b3, o3 + k, none⟩) _ hb3]; exact hc3 k hlt
      clear hpz hk2 ht' hcb hc3
      obtain ⟨d, hd⟩ : ∃ d, hs.getD k false = d := ⟨_, rfl⟩
      rw [hd] at z0
      have HD := Lib.hid hd
      clear hd
      cases d
      · have htn := Lib.hid (show ∀ i, t.testBit i = (decide (i < k + 1) && hs.getD i false) from fun i => by
          rw [htb.out]
          by_cases e : k = i
          · subst e; rw [HD.out]; simp
          · congr 1
            simp only [decide_eq_decide]; omega)
        go_wp2_with fail
        go_roundw
        case rel => exact ⟨k + 1, t, by omega, by go_num, rfl, ht16, htn, by first | trivial | rfl⟩
        case measure => simp [intOf]; omega
      · have htn := Lib.hid (show ∀ i, t'.testBit i = (decide (i < k + 1) && hs.getD i false) from fun i => by
          rw [HTB.out, htb.out]
          by_cases e : k = i
          · subst e; rw [HD.out]; simp
          · simp only [e, decide_false, Bool.or_false]
            congr 1
            simp only [decide_eq_decide]; omega)
        go_wp2_with fail
        go_roundw
        case rel => exact ⟨k + 1, t', by omega, by go_num, rfl, ht2, htn, by first | trivial | rfl⟩
        case measure => simp [intOf]; omega
    · obtain rfl : k = n := by omega
      have htL : t < L := by
        rw [HL.out.2]
        exact Nat.lt_pow_two_of_testBit t (fun i hi => by rw [htb.out, decide_eq_false (by omega)]; rfl)
      obtain ⟨b1, o1, x1, u1, u2, rfl, hg1, y0, y1, y2, hQ⟩ := hat t htL
      obtain ⟨A5, k5, c5, A6, k6, c6, rfl, rfl⟩ := hQ.slices
      have z0 : (w.alloc (.cells #[.bool false, .slice none 0 0, .slice none 0 0] 40)).cell? ⟨b1, o1 + t * 3, none⟩ = some (.bool x1) := by rw [World.cell?_alloc_lt w (a := ⟨b1, o1 + t * 3, none⟩) _ hg1]; exact y0
      have z1 : (w.alloc (.cells #[.bool false, .slice none 0 0, .slice none 0 0] 40)).cell? ⟨b1, o1 + t * 3 + 1, none⟩ = some (.slice A5 k5 c5) := by rw [World.cell?_alloc_lt w (a := ⟨b1, o1 + t * 3 + 1, none⟩) _ hg1]; exact y1
      have z2 : (w.alloc (.cells #[.bool false, .slice none 0 0, .slice none 0 0] 40)).cell? ⟨b1, o1 + t * 3 + 2, none⟩ = some (.slice A6 k6 c6) := by rw [World.cell?_alloc_lt w (a := ⟨b1, o1 + t * 3 + 2, none⟩) _ hg1]; exact y2
      clear y0 y1 y2 hat hcb
      go_wp2_with fail
      refine bodyPost_ret (v := .tuple #[.agg #[.bool x1, .slice A5 k5 c5, .slice A6 k6 c6], .int .i64 0]) (by simp [results, Tryz.results9, go_sem]) rfl ?_
      refine ⟨_, _, _, t, rfl, htL, htb.out, ?_, by (repeat (first | assumption | exact Below.refl _ _ | refine Below.drew ?_ | refine Below.setCell ?_ (by simp <;> omega) _ | refine Below.alloc ?_ (by simp <;> omega) _))⟩
      exact hQ.alloc _
theorem worth_bad (A1 A2 : Option Addr) (L n2 c1 c2 : Nat) (w : World) (hc : cols L = 0 ∨ n2 ≠ cols L) :
    Calls Tryz.prog 9 #[.slice A1 L c1, .slice A2 n2 c2] w fun e w' => e = .returned (.tuple #[.agg #[.bool false, .slice none 0 0, .slice none 0 0], .int .i64 5]) ∧ Below w.heap.size w w' := by
  have hC := fun wd => columns_any A1 L c1 wd
  obtain ⟨n, hn⟩ : ∃ n, cols L = n := ⟨_, rfl⟩
  rw [hn] at hC hc
  have HC := Lib.hid hC
  clear hC hn
  by_cases h0 : n = 0
  · subst h0
    clear hc
    go_enter Tryz.func9, Tryz.ntmps9
    go_wp2_with fail
    refine (HC.out _).mono ?_
    rintro e w1 ⟨rfl, rfl⟩
    go_wp2_with fail
    refine bodyPost_ret (v := .tuple #[.agg #[.bool false, .slice none 0 0, .slice none 0 0], .int .i64 5]) (by simp [results, Tryz.results9, go_sem]) rfl ?_
    exact ⟨rfl, by (repeat (first | assumption | exact Below.refl _ _ | refine Below.drew ?_ | refine Below.setCell ?_ (by simp <;> omega) _ | refine Below.alloc ?_ (by simp <;> omega) _))⟩
  · have t1 : ((n : Int) == 0) = false := beq_eq_false_iff_ne.2 (by omega)
    have t2 : ((n2 : Int) != (n : Int)) = true := bne_iff_ne.2 (by omega)
    clear hc h0
    go_enter Tryz.func9, Tryz.ntmps9
    go_wp2_with fail
    refine (HC.out _).mono ?_
    rintro e w1 ⟨rfl, rfl⟩
    go_wp2_with fail
    refine bodyPost_ret (v := .tuple #[.agg #[.bool false, .slice none 0 0, .slice none 0 0], .int .i64 5]) (by simp [results, Tryz.results9, go_sem]) rfl ?_
    exact ⟨rfl, by (repeat (first | assumption | exact Below.refl _ _ | refine Below.drew ?_ | refine Below.setCell ?_ (by simp <;> omega) _ | refine Below.alloc ?_ (by simp <;> omega) _))⟩

theorem noints_flat2 {w : World} {ts : List T3} {qs : List Rat} {n : Nat} (h1 : ts.length = n) (h2 : qs.length = n) (h : ∀ (c : Nat) (t : T3) (q : Rat), ts[c]? = some t → qs[c]? = some q → QV w t.1 t.2.1 t.2.2 q) : ∀ x, x ∈ flat ts → ∀ k q, x ≠ .int k q :=
  noints_flat (Q := fun i => qs.getD i 0) (fun c t ht => h c t _ ht (by
    have hc := (List.getElem?_eq_some_iff.1 ht).1
    rw [List.getD_eq_getElem?_getD, List.getElem?_eq_getElem (by omega)]; rfl))
/-- what each column adds as they come; none: one comes twice, or is none -/
def tgo (v : List Rat) : List Nat → Nat → List Rat → Option (List Rat)
  | [], _, out => some out
  | c :: cs, s, out => if out.length ≤ c ∨ s.testBit c = true then none else tgo v cs (s ||| 2 ^ c) (out.set c (v.getD (s ||| 2 ^ c) 0 - v.getD s 0))

set_option maxRecDepth 100000 in
set_option maxHeartbeats 20000000 in
theorem turns_any (x y : Value) (v : List Rat) (os : List Nat) (n : Nat) (w : World) (h : Row3 QV w x v) (hb : IsInts .i64 w y (os.map Int.ofNat)) (hc : cols v.length = n) (hn : n ≠ 0) (hl : os.length = n) (hsv : ∀ q, q ∈ v → Short q) :
    Calls Tryz.prog 10 #[x, y] w fun e w' => ((tgo v os 0 (List.replicate n 0) = none ∧ e = .returned (.tuple #[.slice none 0 0, .int .i64 1])) ∨ ∃ l r, tgo v os 0 (List.replicate n 0) = some l ∧ e = .returned (.tuple #[r, .int .i64 0]) ∧ Row3 QV w' r l) ∧ Below w.heap.size w w' := by
  have h2 := cols_le v.length
  rw [hc] at h2
  have hvl := h2.2 hn
  have hn10 := h2.1
  obtain ⟨A1, c1, rfl, -, -, hat⟩ := h.at
  obtain ⟨A2, cc2, rfl, hlc2, hm2, hcb⟩ := hb
  rw [List.length_map, hl] at hcb hlc2 ⊢
  obtain ⟨L, hL⟩ : ∃ L, v.length = L := ⟨_, rfl⟩
  rw [hL] at hat hvl hc ⊢
  have hC := fun wd => columns_any A1 L c1 wd
  rw [hc] at hC
  have HC := Lib.hid hC
  have HL := Lib.hid (And.intro hL hvl)
  have HO := Lib.hid hl
  have hL1 : L ≤ 1024 := by rw [hvl]; exact Nat.le_trans (Nat.pow_le_pow_right (by decide) hn10) (by decide)
  have t1 : ((n : Int) == 0) = false := beq_eq_false_iff_ne.2 (by omega)
  have hmk := mk3_at (P := Tryz.prog) Tryz.underlying29 Tryz.infoQ .i64 .i64 n (by omega)
  obtain ⟨R, hR⟩ : ∃ R, tgo v os 0 (List.replicate n 0) = R := ⟨_, rfl⟩
  rw [hR]
  have HR := Lib.hid hR
  clear h2 hC hc hvl hL h hl hR hm2
  go_enter Tryz.func10, Tryz.ntmps10
  go_wp2_with fail
  refine (HC.out _).mono ?_
  rintro e w1 ⟨rfl, rfl⟩
  go_wp2_with fail
  go_loopw [7, 26] (fun s i wr => ∃ (k t : Nat) (ts : List T3) (qs : List Rat), k ≤ n ∧ i = .int .i64 k ∧ s = .int .i64 t ∧ t < L ∧ Hid (ts.length = n ∧ qs.length = n) ∧ Hid (Blk wr w.heap.size (flat ts) 40) ∧ Hid (∀ (c : Nat) (t : T3) (q : Rat), ts[c]? = some t → qs[c]? = some q → QV wr t.1 t.2.1 t.2.2 q) ∧ Hid (tgo v (os.drop k) t qs = R) ∧ Hid (Below w.heap.size w wr)) (fun _ i _ => n - (intOf i).toNat)
  case atStart =>
    refine ⟨0, 0, List.replicate n z3, List.replicate n 0, by omega, rfl, rfl, by rw [HL.out.2]; exact Nat.two_pow_pos _, Lib.hid ⟨by simp, by simp⟩, Lib.hid (Blk.new _ _ _), Lib.hid (fun c t q ht hq => ?_), Lib.hid (by rw [List.drop_zero]; exact HR.out), Lib.hid (by (repeat (first | assumption | exact Below.refl _ _ | refine Below.drew ?_ | refine Below.setCell ?_ (by simp <;> omega) _ | refine Below.alloc ?_ (by simp <;> omega) _)))⟩
    rw [List.getElem?_replicate] at ht hq
    split at ht
    · rename_i hcn
      rw [if_pos hcn] at hq
      injection ht with ht; injection hq with hq; subst ht hq; exact QV.zero _
    · cases ht
  case round =>
    obtain ⟨k', t, ts, qs, hk, rfl, rfl, htL, hts, P, hq, hgo, hbel⟩ := hrel
    by_cases hlt : k' < n
    · obtain ⟨b3, o3, rfl, hb3, hc3⟩ := hcb (by omega)
      have hok : os[k']? = some (os.getD k' 0) := by rw [List.getD_eq_getElem?_getD, List.getElem?_eq_getElem (by rw [HO.out]; exact hlt)]; rfl
      have hz0 := (hbel.out.cell (p := ⟨b3, o3 + k', none⟩) hb3).trans (hc3 k' hlt)
      have hmg : (os.map Int.ofNat).getD k' 0 = ((os.getD k' 0 : Nat) : Int) := by
        rw [List.getD_eq_getElem?_getD, List.getElem?_map, hok]; rfl
      rw [hmg] at hz0
      have hdrop : os.drop k' = os.getD k' 0 :: os.drop (k' + 1) := by
        rw [List.drop_eq_getElem_cons (by rw [HO.out]; exact hlt), List.getD_eq_getElem?_getD, List.getElem?_eq_getElem (by rw [HO.out]; exact hlt)]; rfl
      have hgo2 := hgo.out
      rw [hdrop, tgo] at hgo2
      clear hok hmg hdrop hc3 hcb
      generalize os.getD k' 0 = c at *
      by_cases hcn : c < n
      · have hbit := bit_at (s := t) (k := c) (by omega)
        have hc10 : c < 11 := by omega
        have hwc : IntKind.u64.wrap (c : Int) = c := by rw [wrap64u]; omega
        have hc65 : min c IntKind.i64.bits = c := by have : IntKind.i64.bits = 64 := rfl; omega
        have hc66 : min (Int.toNat (c : Int)) IntKind.i64.bits = c := hc65
        have tA : ((n : Int) ≤ (c : Int)) = False := by simp; omega
        by_cases hb : t.testBit c = true
        · rw [if_pos hb] at hbit
          rw [if_pos (Or.inr hb)] at hgo2
          have HG := Lib.hid hgo2
          clear hb hgo2
          go_wp2_with fail
          go_ret2
          exact ⟨.inl ⟨HG.out.symm, rfl⟩, hbel.out⟩
        · rw [if_neg hb] at hbit
          rw [if_neg (by rw [hts.out.2]; intro h7; rcases h7 with h7 | h7; omega; exact hb h7)] at hgo2
          have hpz : (2 : Int) ^ c = ((2 ^ c : Nat) : Int) := by rw [Int.natCast_pow]; rfl
          have hk2 : (2 : Nat) ^ c < 2 ^ n := Nat.pow_lt_pow_right (by decide) hcn
          have ht2 : t ||| 2 ^ c < 2 ^ n := Nat.or_lt_two_pow (by rw [← HL.out.2]; exact htL) hk2
          rw [← HL.out.2] at ht2 hk2
          have hor : bits .or .i64 (t : Int) (2 ^ c) = ((t ||| 2 ^ c : Nat) : Int) := by
            rw [hpz]
            exact Tryz.or_i64 (by omega) (by omega)
          have hw : IntKind.i64.wrap ((2 : Int) ^ c) = 2 ^ c := by
            rw [hpz, IntKind.wrap_i64]
            generalize (2 : Nat) ^ c = X at *
            omega
          obtain ⟨m, hm⟩ : ∃ m, t ||| 2 ^ c = m := ⟨_, rfl⟩
          rw [hm] at hor ht2 hgo2
          have HG := Lib.hid hgo2
          obtain ⟨bv, ov, x3, v3, v4, rfl, hbv, y0, y1, y2, hQ3⟩ := hat m ht2
          obtain ⟨bv', ov', x4, v5, v6, ev, hbv', y3, y4, y5, hQ4⟩ := hat t htL
          injection ev with ev
          injection ev with ev1 ev2
          subst ev1 ev2
          replace hQ3 := hQ3.below hbel.out (Nat.le_refl _)
          replace hQ4 := hQ4.below hbel.out (Nat.le_refl _)
          obtain ⟨A5, k5, c5, A6, k6, c6, rfl, rfl⟩ := hQ3.slices
          obtain ⟨A7, k7, c7, A8, k8, c8, rfl, rfl⟩ := hQ4.slices
          have q0_0 := (hbel.out.cell (p := ⟨bv, ov + m * 3, none⟩) hbv).trans y0
          have q0_1 := (hbel.out.cell (p := ⟨bv, ov + m * 3 + 1, none⟩) hbv).trans y1
          have q0_2 := (hbel.out.cell (p := ⟨bv, ov + m * 3 + 2, none⟩) hbv).trans y2
          have q0_3 := (hbel.out.cell (p := ⟨bv, ov + t * 3, none⟩) hbv).trans y3
          have q0_4 := (hbel.out.cell (p := ⟨bv, ov + t * 3 + 1, none⟩) hbv).trans y4
          have q0_5 := (hbel.out.cell (p := ⟨bv, ov + t * 3 + 2, none⟩) hbv).trans y5
          have lg_0 : w.heap.size < wr.heap.size := P.out.lt
          have lbv_0 : bv < wr.heap.size := Nat.lt_of_lt_of_le hbv hbel.out.size
          have hvm := hsv _ (getD_mem' (l := v) (i := m) (by rw [HL.out.1]; exact ht2))
          have hvs := hsv _ (getD_mem' (l := v) (i := t) (by rw [HL.out.1]; exact htL))
          have hS := Lib.hid (fun (wd : World) (hb : Below wr.heap.size wr wd) => frSub_small x3 x4 _ _ _ _ _ _ wd (hQ3.below hb (Nat.le_refl _)) (hQ4.below hb (Nat.le_refl _)) hvm hvs)
          obtain ⟨g1, g2, g3⟩ := flat_get ts c (ts[c]'(by rw [hts.out.1]; exact hcn)) (List.getElem?_eq_getElem _)
          generalize ts[c]'(by rw [hts.out.1]; exact hcn) = t1' at *
          obtain ⟨xx1, vv1, vv2⟩ := t1'
          have nb3 : ¬ w.heap.size = bv := by omega
          have nb4 : ¬ bv = w.heap.size := by omega
          have hm3 : (m : Int) < (L : Int) := by omega
          have ht3 : (t : Int) < (L : Int) := by omega
          have hc3 : (c : Int) < (n : Int) := by omega
          clear hb hpz hk2 hm hgo2 hgo y0 y1 y2 y3 y4 y5 hQ3 hQ4 hvm hvs hat hbv hbv' hb3
          go_upto_region 13 with fail
          go_region_held3 (fun w' => w'.cell? ⟨bv, ov + m * 3, none⟩ = some (Value.bool x3) ∧ w'.cell? ⟨bv, ov + m * 3 + 1, none⟩ = some (Value.slice A5 k5 c5) ∧ w'.cell? ⟨bv, ov + m * 3 + 2, none⟩ = some (Value.slice A6 k6 c6) ∧ w'.cell? ⟨bv, ov + t * 3, none⟩ = some (Value.bool x4) ∧ w'.cell? ⟨bv, ov + t * 3 + 1, none⟩ = some (Value.slice A7 k7 c7) ∧ w'.cell? ⟨bv, ov + t * 3 + 2, none⟩ = some (Value.slice A8 k8 c8)) (go_keep)
          (first
            | ((go_at_call 23; refine (hS.out _ ((Below.refl _ _).drew)).mono ?_; rintro e w_1 ⟨b7, v9, v10, rfl, hq7, hb_1⟩; have hB_1 := Lib.hid ((Below.refl wr.heap.size wr).drew.trans hb_1); have q1_0 : w_1.cell? ⟨bv, ov + m * 3, none⟩ = some (Value.bool x3) := (hb_1.cell (p := ⟨bv, ov + m * 3, none⟩) lbv_0).trans q0_0; have q1_1 : w_1.cell? ⟨bv, ov + m * 3 + 1, none⟩ = some (Value.slice A5 k5 c5) := (hb_1.cell (p := ⟨bv, ov + m * 3 + 1, none⟩) lbv_0).trans q0_1; have q1_2 : w_1.cell? ⟨bv, ov + m * 3 + 2, none⟩ = some (Value.slice A6 k6 c6) := (hb_1.cell (p := ⟨bv, ov + m * 3 + 2, none⟩) lbv_0).trans q0_2; have q1_3 : w_1.cell? ⟨bv, ov + t * 3, none⟩ = some (Value.bool x4) := (hb_1.cell (p := ⟨bv, ov + t * 3, none⟩) lbv_0).trans q0_3; have q1_4 : w_1.cell? ⟨bv, ov + t * 3 + 1, none⟩ = some (Value.slice A7 k7 c7) := (hb_1.cell (p := ⟨bv, ov + t * 3 + 1, none⟩) lbv_0).trans q0_4; have q1_5 : w_1.cell? ⟨bv, ov + t * 3 + 2, none⟩ = some (Value.slice A8 k8 c8) := (hb_1.cell (p := ⟨bv, ov + t * 3 + 2, none⟩) lbv_0).trans q0_5; obtain ⟨E1, e1, f1, E2, e2, f2, rfl, rfl⟩ := hq7.slices; have HQ7 := Lib.hid hq7; clear hq7; have P3 := Lib.hid (P.out.below hB_1.out lg_0); have cz0 := (P3.out.cell (c * 3)).trans g1; have cz1 := (P3.out.cell (c * 3 + 1)).trans g2; have cz2 := (P3.out.cell (c * 3 + 2)).trans g3; have fz0 := P3.out.frozen (c * 3); have fz1 := P3.out.frozen (c * 3 + 1); have fz2 := P3.out.frozen (c * 3 + 2)))
            | ((fail)))
          all_goals go_wp2_with fail
          all_goals
            go_roundw
            case rel =>
              have hno : ∀ x, x ∈ flat ts → ∀ k q, x ≠ .int k q := noints_flat2 hts.out.1 hts.out.2 hq.out
              refine ⟨k' + 1, m, ts.set c (b7, .slice E1 e1 f1, .slice E2 e2 f2), qs.set c (v.getD m 0 - v.getD t 0), by omega, by go_num, rfl, ht2, Lib.hid ⟨by rw [List.length_set]; exact hts.out.1, by rw [List.length_set]; exact hts.out.2⟩, Lib.hid ?_, Lib.hid ?_, HG, Lib.hid ?_⟩
              · rw [← flat_set ts c _ _ _ (by rw [hts.out.1]; exact hcn)]
                exact ((P3.out.set (c * 3) (.bool b7)).set (c * 3 + 1) (.slice E1 e1 f1)).set (c * 3 + 2) (.slice E2 e2 f2)
              · intro d t' q ht hqd
                by_cases e : d = c
                · subst e
                  rw [List.getElem?_set_self (by rw [hts.out.1]; exact hcn)] at ht
                  rw [List.getElem?_set_self (by rw [hts.out.2]; exact hcn)] at hqd
                  simp only [Option.some.injEq] at ht hqd
                  subst ht hqd
                  exact HQ7.out.set3flat P3.out hno (by simp) (by simp)
                · rw [List.getElem?_set_ne (by omega)] at ht hqd
                  exact ((hq.out d t' q ht hqd).below hB_1.out (Nat.le_refl _)).set3flat P3.out hno (by simp) (by simp)
              · exact ((((hbel.out.trans (hB_1.out.mono hbel.out.size))).setCell (p := ⟨w.heap.size, c * 3, none⟩) (Nat.le_refl _) _).setCell (p := ⟨w.heap.size, c * 3 + 1, none⟩) (Nat.le_refl _) _).setCell (p := ⟨w.heap.size, c * 3 + 2, none⟩) (Nat.le_refl _) _
            case measure => simp [intOf]; omega
      · rw [if_pos (Or.inl (by rw [hts.out.2]; omega))] at hgo2
        have HG := Lib.hid hgo2
        have tA : ((n : Int) ≤ (c : Int)) = True := by simp; omega
        clear hgo2
        go_wp2_with fail
        go_ret2
        exact ⟨.inl ⟨HG.out.symm, rfl⟩, hbel.out⟩
    · obtain rfl : k' = n := by omega
      have hgo2 := hgo.out
      rw [List.drop_of_length_le (by rw [HO.out]; exact Nat.le_refl _), tgo] at hgo2
      have HG := Lib.hid hgo2
      clear hgo2
      go_wp2_with fail
      go_ret2
      exact ⟨.inr ⟨qs, _, HG.out.symm, rfl, P.out.row3 hts.out.2.symm (by rw [hts.out.1, hts.out.2]) (by unfold maxLen; omega) hq.out⟩, hbel.out⟩

theorem turns_ok (x y : Value) (v : List Rat) (os : List Nat) (n : Nat) (l : List Rat) (w : World) (h : Row3 QV w x v) (hb : IsInts .i64 w y (os.map Int.ofNat)) (hc : cols v.length = n) (hn : n ≠ 0) (hl : os.length = n) (hsv : ∀ q, q ∈ v → Short q) (ht : tgo v os 0 (List.replicate n 0) = some l) :
    Calls Tryz.prog 10 #[x, y] w fun e w' => ∃ r, e = .returned (.tuple #[r, .int .i64 0]) ∧ Row3 QV w' r l ∧ Below w.heap.size w w' :=
  (turns_any x y v os n w h hb hc hn hl hsv).mono fun _ _ ⟨h1, h2⟩ => by
    rcases h1 with ⟨h1, -⟩ | ⟨l', r, h1, he, hr⟩
    · rw [ht] at h1; cases h1
    · rw [ht] at h1
      injection h1 with h1
      subst h1
      exact ⟨r, he, hr, h2⟩
theorem turns_dup (x y : Value) (v : List Rat) (os : List Nat) (n : Nat) (w : World) (h : Row3 QV w x v) (hb : IsInts .i64 w y (os.map Int.ofNat)) (hc : cols v.length = n) (hn : n ≠ 0) (hl : os.length = n) (hsv : ∀ q, q ∈ v → Short q) (ht : tgo v os 0 (List.replicate n 0) = none) :
    Calls Tryz.prog 10 #[x, y] w fun e w' => e = .returned (.tuple #[.slice none 0 0, .int .i64 1]) ∧ Below w.heap.size w w' :=
  (turns_any x y v os n w h hb hc hn hl hsv).mono fun _ _ ⟨h1, h2⟩ => by
    rcases h1 with ⟨-, he⟩ | ⟨l', r, h1, he, hr⟩
    · exact ⟨he, h2⟩
    · rw [ht] at h1; cases h1

end Go.Proofs.YtjfkniknmkcdcaaGreatDoor
