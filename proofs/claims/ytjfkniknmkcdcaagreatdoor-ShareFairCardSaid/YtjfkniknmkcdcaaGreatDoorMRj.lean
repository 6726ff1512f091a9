/- The walks of the document's Columns, Turns. (printed by wip/gen/rj.py) -/
import Derived.Test.YtjfkniknmkcdcaaGreatDoorMRi
import Derived.Test.YtjfkniknmkcdcaaGreatDoorMTp
namespace Go.Proofs.YtjfkniknmkcdcaaGreatDoor
open Go.RowKit K Nu


set_option maxRecDepth 100000 in
set_option maxHeartbeats 2000000 in
theorem rcolumns_any (L : Nat) (w : World) :
    Calls Tryz.prog 12 #[.int .i64 (L : Int)] w fun e w' => e = .returned (.int .i64 (cols L : Int)) ∧ w = w' := by
  obtain ⟨r, hr⟩ : ∃ r, cols L = r := ⟨_, rfl⟩
  rw [hr]
  have HR := Lib.hid hr
  clear hr
  go_enter Tryz.func12, Tryz.ntmps12
  go_wp2
  go_loopw [3] (fun i wr => ∃ k : Nat, 1 ≤ k ∧ k ≤ 11 ∧ i = .int .i64 k ∧ Hid (∀ j, 1 ≤ j → j < k → L ≠ 2 ^ j) ∧ wr = w) (fun i _ => 11 - (intOf i).toNat)
  case atStart => exact ⟨1, by omega, by omega, rfl, Lib.hid (fun j h1 h2 => by omega), rfl⟩
  case round =>
    obtain ⟨k, hk1, hk2, rfl, hno, rfl⟩ := hrel
    by_cases hlt : k < 11
    · have hp : (2 : Nat) ^ k ≤ 2 ^ 10 := Nat.pow_le_pow_right (by decide) (by omega)
      have hp2 : (2 : Nat) ^ 10 = 1024 := by decide
      have hpz : (2 : Int) ^ k = ((2 ^ k : Nat) : Int) := by rw [Int.natCast_pow]; rfl
      have hw : IntKind.i64.wrap ((2 : Int) ^ k) = 2 ^ k := by
        rw [hp2] at hp
        rw [hpz, IntKind.wrap_i64]
        generalize (2 : Nat) ^ k = P at hp ⊢
        omega
      by_cases he : L = 2 ^ k
      · have t1 : ((L : Int) == 2 ^ k) = true := by rw [hpz, he]; simp
        have HZ := Lib.hid (show r = k by rw [← HR.out, he]; exact cols_pow hk1 (by omega))
        clear he hpz
        go_wp2
        go_ret
        rw [HZ.out]
        exact ⟨rfl, rfl⟩
      · have t1 : ((L : Int) == 2 ^ k) = false := by rw [hpz]; exact beq_eq_false_iff_ne.2 (by omega)
        have HE := Lib.hid he
        clear he hpz
        go_wp2
        go_roundw
        case rel =>
          refine ⟨k + 1, by omega, by omega, by go_num, Lib.hid (fun j h1 h2 => ?_), trivial⟩
          by_cases e : j = k
          · subst e; exact HE.out
          · exact hno.out j h1 (by omega)
        case measure => simp [intOf]; omega
    · obtain rfl : k = 11 := by omega
      have HZ := Lib.hid (show r = 0 by rw [← HR.out]; exact cols_none hno.out)
      go_wp2
      go_ret
      rw [HZ.out]
      exact ⟨rfl, rfl⟩

theorem RN.set3flat {w : World} {g i n : Nat} {vn u1 u2 : Value} {b : Bool} {l : List Value} {T : TypeId} (h : RN w vn n) (hB : Blk w g l T) (hno : ∀ x, x ∈ l → ∀ k q, x ≠ .int k q) (h1 : ∀ k q, u1 ≠ .int k q) :
    RN (((w.setCell ⟨g, i * 3, none⟩ (.bool b)).setCell ⟨g, i * 3 + 1, none⟩ u1).setCell ⟨g, i * 3 + 2, none⟩ u2) vn n :=
  ((h.box hB (fun x hx q => hno x hx _ q) (i * 3) (.bool b)).box (hB.set _ _) (fun x hx q => no_set hno (by simp) x hx _ q) (i * 3 + 1) u1).box ((hB.set _ _).set _ _) (fun x hx q => no_set (no_set hno (by simp)) h1 x hx _ q) (i * 3 + 2) u2
theorem RQ.set3flat {w : World} {g i : Nat} {b b' : Bool} {vn vr u1 u2 : Value} {q : Rat} {l : List Value} {T : TypeId} (h : RQ w b' vn vr q) (hB : Blk w g l T) (hno : ∀ x, x ∈ l → ∀ k q, x ≠ .int k q) (h1 : ∀ k q, u1 ≠ .int k q) :
    RQ (((w.setCell ⟨g, i * 3, none⟩ (.bool b)).setCell ⟨g, i * 3 + 1, none⟩ u1).setCell ⟨g, i * 3 + 2, none⟩ u2) b' vn vr q :=
  ⟨⟨h.1.1.set3flat hB hno h1, h.1.2⟩, h.2.set3flat hB hno h1⟩
theorem noflat_set {ts : List T3} {c : Nat} {b : Bool} {u v : Value} (h : ∀ x, x ∈ flat ts → ∀ k q, x ≠ .int k q) (hc : c < ts.length) (h1 : ∀ k q, u ≠ .int k q) (h2 : ∀ k q, v ≠ .int k q) : ∀ x, x ∈ flat (ts.set c (b, u, v)) → ∀ k q, x ≠ .int k q := by
  rw [← flat_set ts c b u v hc]
  exact no_set (no_set (no_set h (by simp)) h1) h2
theorem noflat_rep (n : Nat) : ∀ x, x ∈ flat (List.replicate n z3) → ∀ k q, x ≠ .int k q := by
  intro x hx
  rcases flat_mem hx with ⟨b, rfl⟩ | ⟨t, ht, h1⟩
  · intro k q; simp
  · obtain ⟨-, rfl⟩ := List.mem_replicate.1 ht
    rcases h1 with rfl | rfl <;> (intro k q; simp [z3])

set_option maxRecDepth 100000 in
set_option maxHeartbeats 20000000 in
theorem rturns_any (x y : Value) (v : List Rat) (os : List Nat) (n : Nat) (w : World) (h : Row3 RQ w x v) (hb : IsInts .i64 w y (os.map Int.ofNat)) (hvl : v.length = 2 ^ n) (hn10 : n ≤ 10) (hl : os.length = n) (hos : ∀ c, c ∈ os → c < n) (hall : hav os 0 = 2 ^ n - 1) (hsv : ∀ q, q ∈ v → Tiny q) :
    Calls Tryz.prog 17 #[x, y] w fun e w' => ∃ r, e = .returned r ∧ Row3 RQ w' r (tset v os 0 (List.replicate n 0)) ∧ NewV w.heap.size r ∧ Below w.heap.size w w' := by
  obtain ⟨A1, c1, rfl, -, -, hat⟩ := h.at
  obtain ⟨A2, cc2, rfl, hlc2, hm2, hcb⟩ := hb
  rw [List.length_map, hl] at hcb hlc2 ⊢
  obtain ⟨L, hL⟩ : ∃ L, v.length = L := ⟨_, rfl⟩
  rw [hL] at hat hvl ⊢
  have HL := Lib.hid (And.intro hL hvl)
  have HO := Lib.hid (And.intro hl hos)
  have HALL := Lib.hid hall
  have hL1 : L ≤ 1024 := by rw [hvl]; exact Nat.le_trans (Nat.pow_le_pow_right (by decide) hn10) (by decide)
  have hmk := mk3_at (P := Tryz.prog) Tryz.underlying23 Tryz.infoRQ .i64 .i64 n (by omega)
  obtain ⟨R, hR⟩ : ∃ R, tset v os 0 (List.replicate n 0) = R := ⟨_, rfl⟩
  rw [hR]
  have HR := Lib.hid hR
  clear hvl hL h hl hR hm2 hos hall
  go_enter Tryz.func17, Tryz.ntmps17
  go_wp2_with fail
  go_loopw [6, 7] (fun s i wr => ∃ (k t : Nat) (ts : List T3) (qs : List Rat), k ≤ n ∧ i = .int .i64 k ∧ s = .int .i64 t ∧ t < L ∧ Hid (ts.length = n ∧ qs.length = n) ∧ Hid (Blk wr w.heap.size (flat ts) 55) ∧ Hid (∀ x, x ∈ flat ts → ∀ k q, x ≠ .int k q) ∧ Hid (∀ (c : Nat) (t' : T3) (q : Rat), ts[c]? = some t' → qs[c]? = some q → t.testBit c = true → RQ wr t'.1 t'.2.1 t'.2.2 q) ∧ Hid (tset v (os.drop k) t qs = R) ∧ Hid (hav (os.drop k) t = 2 ^ n - 1) ∧ Hid (Below w.heap.size w wr)) (fun _ i _ => n - (intOf i).toNat)
  case atStart =>
    refine ⟨0, 0, List.replicate n z3, List.replicate n 0, by omega, rfl, rfl, by rw [HL.out.2]; exact Nat.two_pow_pos _, Lib.hid ⟨by simp, by simp⟩, Lib.hid (Blk.new _ _ _), Lib.hid (noflat_rep n), Lib.hid (fun c t q ht hq hbit => ?_), Lib.hid (by rw [List.drop_zero]; exact HR.out), Lib.hid (by rw [List.drop_zero]; exact HALL.out), Lib.hid (by (repeat (first | assumption | exact Below.refl _ _ | refine Below.drew ?_ | refine Below.setCell ?_ (by simp <;> omega) _ | refine Below.alloc ?_ (by simp <;> omega) _)))⟩
    simp at hbit
  case round =>
    obtain ⟨k', t, ts, qs, hk, rfl, rfl, htL, hts, P, hno, hq, hgo, hhv, hbel⟩ := hrel
    by_cases hlt : k' < n
    · obtain ⟨b3, o3, rfl, hb3, hc3⟩ := hcb (by omega)
      have hok : os[k']? = some (os.getD k' 0) := by rw [List.getD_eq_getElem?_getD, List.getElem?_eq_getElem (by rw [HO.out.1]; exact hlt)]; rfl
      have hz0 := (hbel.out.cell (p := ⟨b3, o3 + k', none⟩) hb3).trans (hc3 k' hlt)
      have hmg : (os.map Int.ofNat).getD k' 0 = ((os.getD k' 0 : Nat) : Int) := by
        rw [List.getD_eq_getElem?_getD, List.getElem?_map, hok]; rfl
      rw [hmg] at hz0
      have hdrop : os.drop k' = os.getD k' 0 :: os.drop (k' + 1) := by
        rw [List.drop_eq_getElem_cons (by rw [HO.out.1]; exact hlt), List.getD_eq_getElem?_getD, List.getElem?_eq_getElem (by rw [HO.out.1]; exact hlt)]; rfl
      have hcn : os.getD k' 0 < n := HO.out.2 _ (List.mem_of_getElem? hok)
      have hgo2 := hgo.out
      have hhv2 := hhv.out
      rw [hdrop, tset] at hgo2
      rw [hdrop, hav, List.foldl_cons, ← hav] at hhv2
      clear hok hmg hdrop hc3 hcb
      generalize os.getD k' 0 = c at *
      have hc10 : c < 10 := by omega
      have hwc : IntKind.u64.wrap (c : Int) = c := by rw [wrap64u]; omega
      have hc65 : min c IntKind.i64.bits = c := by have : IntKind.i64.bits = 64 := rfl; omega
      have hc66 : min (Int.toNat (c : Int)) IntKind.i64.bits = c := hc65
      have hpz : (2 : Int) ^ c = ((2 ^ c : Nat) : Int) := by rw [Int.natCast_pow]; rfl
      have hk2 : (2 : Nat) ^ c < 2 ^ n := Nat.pow_lt_pow_right (by decide) hcn
      have ht2 : t ||| 2 ^ c < 2 ^ n := Nat.or_lt_two_pow (by rw [← HL.out.2]; exact htL) hk2
      rw [← HL.out.2] at ht2 hk2
      have hor : bits .or .i64 (t : Int) (2 ^ c) = ((t ||| 2 ^ c : Nat) : Int) := by
        rw [hpz]
        exact Tryz.or_i64 (by omega) (by omega)
      have hw : IntKind.i64.wrap ((2 : Int) ^ c) = 2 ^ c := by
        rw [hpz, IntKind.wrap_i64]
        generalize (2 : Nat) ^ c = X at *
        omega
      have htb : ∀ i, (t ||| 2 ^ c).testBit i = (t.testBit i || decide (c = i)) := fun i => by rw [Nat.testBit_or, Nat.testBit_two_pow]
      obtain ⟨m, hm⟩ : ∃ m, t ||| 2 ^ c = m := ⟨_, rfl⟩
      rw [hm] at hor ht2 hgo2 hhv2
      have htb2 : ∀ i, m.testBit i = (t.testBit i || decide (c = i)) := fun i => by rw [← hm]; exact htb i
      have HTB := Lib.hid htb2
      have HG := Lib.hid hgo2
      have HH := Lib.hid hhv2
      clear hm htb htb2 hgo2 hhv2
      obtain ⟨bv, ov, x3, v3, v4, rfl, hbv, y0, y1, y2, hQ3⟩ := hat m ht2
      obtain ⟨bv', ov', x4, v5, v6, ev, hbv', y3, y4, y5, hQ4⟩ := hat t htL
      injection ev with ev
      injection ev with ev1 ev2
      subst ev1 ev2
      replace hQ3 := hQ3.below hbel.out (Nat.le_refl _)
      replace hQ4 := hQ4.below hbel.out (Nat.le_refl _)
      obtain ⟨A5, k5, c5, rfl⟩ := hQ3.1.1.slice
      obtain ⟨A6, k6, c6, rfl⟩ := hQ3.2.slice
      obtain ⟨A7, k7, c7, rfl⟩ := hQ4.1.1.slice
      obtain ⟨A8, k8, c8, rfl⟩ := hQ4.2.slice
      have q0_0 := (hbel.out.cell (p := ⟨bv, ov + m * 3, none⟩) hbv).trans y0
      have q0_1 := (hbel.out.cell (p := ⟨bv, ov + m * 3 + 1, none⟩) hbv).trans y1
      have q0_2 := (hbel.out.cell (p := ⟨bv, ov + m * 3 + 2, none⟩) hbv).trans y2
      have q0_3 := (hbel.out.cell (p := ⟨bv, ov + t * 3, none⟩) hbv).trans y3
      have q0_4 := (hbel.out.cell (p := ⟨bv, ov + t * 3 + 1, none⟩) hbv).trans y4
      have q0_5 := (hbel.out.cell (p := ⟨bv, ov + t * 3 + 2, none⟩) hbv).trans y5
      have q0_6 := hz0
      have lg_0 : w.heap.size < wr.heap.size := P.out.lt
      have lbv_0 : bv < wr.heap.size := Nat.lt_of_lt_of_le hbv hbel.out.size
      have lb3_0 : b3 < wr.heap.size := Nat.lt_of_lt_of_le hb3 hbel.out.size
      have hvm := hsv _ (getD_mem' (l := v) (i := m) (by rw [HL.out.1]; exact ht2))
      have hvs := hsv _ (getD_mem' (l := v) (i := t) (by rw [HL.out.1]; exact htL))
      have hS := Lib.hid (fun (wd : World) (hb : Below wr.heap.size wr wd) => rsub_any x3 x4 _ _ _ _ _ _ wd (hQ3.below hb (Nat.le_refl _)) (hQ4.below hb (Nat.le_refl _)) hvm hvs)
      obtain ⟨g1, g2, g3⟩ := flat_get ts c (ts[c]'(by rw [hts.out.1]; exact hcn)) (List.getElem?_eq_getElem _)
      generalize ts[c]'(by rw [hts.out.1]; exact hcn) = t1' at *
      obtain ⟨xx1, vv1, vv2⟩ := t1'
      have nb3 : ¬ w.heap.size = bv := by omega
      have nb4 : ¬ bv = w.heap.size := by omega
      have nb5 : ¬ b3 = w.heap.size := by omega
      have nb6 : ¬ w.heap.size = b3 := by omega
      have hm3 : (m : Int) < (L : Int) := by omega
      have ht3 : (t : Int) < (L : Int) := by omega
      have hc3 : (c : Int) < (n : Int) := by omega
      have hk3 : (k' : Int) < (n : Int) := by omega
      clear hpz hk2 y0 y1 y2 y3 y4 y5 hQ3 hQ4 hvm hvs hat hbv hbv' hb3 hz0
      go_upto_region 7 with fail
      go_region_held3 (fun w' => w'.cell? ⟨bv, ov + m * 3, none⟩ = some (Value.bool x3) ∧ w'.cell? ⟨bv, ov + m * 3 + 1, none⟩ = some (Value.slice A5 k5 c5) ∧ w'.cell? ⟨bv, ov + m * 3 + 2, none⟩ = some (Value.slice A6 k6 c6) ∧ w'.cell? ⟨bv, ov + t * 3, none⟩ = some (Value.bool x4) ∧ w'.cell? ⟨bv, ov + t * 3 + 1, none⟩ = some (Value.slice A7 k7 c7) ∧ w'.cell? ⟨bv, ov + t * 3 + 2, none⟩ = some (Value.slice A8 k8 c8) ∧ w'.cell? ⟨b3, o3 + k', none⟩ = some (Value.int .i64 (c : Int))) (go_keep)
      (first
        | ((go_at_call 37; refine (hS.out _ ((Below.refl _ _).drew)).mono ?_; rintro e w_1 ⟨b7, v9, v10, rfl, hq7, hb_1⟩; have hB_1 := Lib.hid ((Below.refl wr.heap.size wr).drew.trans hb_1); have q1_0 : w_1.cell? ⟨bv, ov + m * 3, none⟩ = some (Value.bool x3) := (hb_1.cell (p := ⟨bv, ov + m * 3, none⟩) lbv_0).trans q0_0; have q1_1 : w_1.cell? ⟨bv, ov + m * 3 + 1, none⟩ = some (Value.slice A5 k5 c5) := (hb_1.cell (p := ⟨bv, ov + m * 3 + 1, none⟩) lbv_0).trans q0_1; have q1_2 : w_1.cell? ⟨bv, ov + m * 3 + 2, none⟩ = some (Value.slice A6 k6 c6) := (hb_1.cell (p := ⟨bv, ov + m * 3 + 2, none⟩) lbv_0).trans q0_2; have q1_3 : w_1.cell? ⟨bv, ov + t * 3, none⟩ = some (Value.bool x4) := (hb_1.cell (p := ⟨bv, ov + t * 3, none⟩) lbv_0).trans q0_3; have q1_4 : w_1.cell? ⟨bv, ov + t * 3 + 1, none⟩ = some (Value.slice A7 k7 c7) := (hb_1.cell (p := ⟨bv, ov + t * 3 + 1, none⟩) lbv_0).trans q0_4; have q1_5 : w_1.cell? ⟨bv, ov + t * 3 + 2, none⟩ = some (Value.slice A8 k8 c8) := (hb_1.cell (p := ⟨bv, ov + t * 3 + 2, none⟩) lbv_0).trans q0_5; have q1_6 : w_1.cell? ⟨b3, o3 + k', none⟩ = some (Value.int .i64 (c : Int)) := (hb_1.cell (p := ⟨b3, o3 + k', none⟩) lb3_0).trans q0_6; obtain ⟨E1, e1, f1, rfl⟩ := hq7.1.1.slice; obtain ⟨E2, e2, f2, rfl⟩ := hq7.2.slice; have HQ7 := Lib.hid hq7; clear hq7; have P3 := Lib.hid (P.out.below hB_1.out lg_0); have cz0 := (P3.out.cell (c * 3)).trans g1; have cz1 := (P3.out.cell (c * 3 + 1)).trans g2; have cz2 := (P3.out.cell (c * 3 + 2)).trans g3; have fz0 := P3.out.frozen (c * 3); have fz1 := P3.out.frozen (c * 3 + 1); have fz2 := P3.out.frozen (c * 3 + 2)))
        | ((fail)))
      all_goals go_wp2_with fail
      all_goals
        go_roundw
        case rel =>
          refine ⟨k' + 1, m, ts.set c (b7, .slice E1 e1 f1, .slice E2 e2 f2), qs.set c (v.getD m 0 - v.getD t 0), by omega, by go_num, rfl, ht2, Lib.hid ⟨by rw [List.length_set]; exact hts.out.1, by rw [List.length_set]; exact hts.out.2⟩, Lib.hid ?_, Lib.hid (noflat_set hno.out (by rw [hts.out.1]; exact hcn) (by simp) (by simp)), Lib.hid ?_, HG, HH, Lib.hid ?_⟩
          · rw [← flat_set ts c _ _ _ (by rw [hts.out.1]; exact hcn)]
            exact ((P3.out.set (c * 3) (.bool b7)).set (c * 3 + 1) (.slice E1 e1 f1)).set (c * 3 + 2) (.slice E2 e2 f2)
          · intro d t' q ht hqd hbd
            by_cases e : d = c
            · subst e
              rw [List.getElem?_set_self (by rw [hts.out.1]; exact hcn)] at ht
              rw [List.getElem?_set_self (by rw [hts.out.2]; exact hcn)] at hqd
              simp only [Option.some.injEq] at ht hqd
              subst ht hqd
              exact HQ7.out.set3flat P3.out hno.out (by simp)
            · rw [List.getElem?_set_ne (by omega)] at ht hqd
              rw [HTB.out, decide_eq_false (fun h7 => e h7.symm), Bool.or_false] at hbd
              exact ((hq.out d t' q ht hqd hbd).below hB_1.out (Nat.le_refl _)).set3flat P3.out hno.out (by simp)
          · exact ((((hbel.out.trans (hB_1.out.mono hbel.out.size))).setCell (p := ⟨w.heap.size, c * 3, none⟩) (Nat.le_refl _) _).setCell (p := ⟨w.heap.size, c * 3 + 1, none⟩) (Nat.le_refl _) _).setCell (p := ⟨w.heap.size, c * 3 + 2, none⟩) (Nat.le_refl _) _
        case measure => simp [intOf]; omega
    · obtain rfl : k' = n := by omega
      have hgo2 := hgo.out
      have hhv2 := hhv.out
      rw [List.drop_of_length_le (by rw [HO.out.1]; exact Nat.le_refl _), tset] at hgo2
      rw [List.drop_of_length_le (by rw [HO.out.1]; exact Nat.le_refl _), hav, List.foldl_nil] at hhv2
      have HG := Lib.hid hgo2
      have HH := Lib.hid hhv2
      clear hgo2 hhv2
      go_wp2_with fail
      go_ret
      refine ⟨_, rfl, ?_, fun A n c e => by (injection e with e _ _; injection e with e; subst e; exact Nat.le_refl _), hbel.out⟩
      rw [← HG.out]
      exact P.out.row3 hts.out.2.symm (by rw [hts.out.1, hts.out.2]) (by unfold maxLen; omega) (fun c t' q h1 h2 => hq.out c t' q h1 h2 (by
        have hc : c < k' := by have := (List.getElem?_eq_some_iff.1 h1).1; rw [hts.out.1] at this; exact this
        rw [HH.out, Nat.testBit_two_pow_sub_one, decide_eq_true hc]))

end Go.Proofs.YtjfkniknmkcdcaaGreatDoor
