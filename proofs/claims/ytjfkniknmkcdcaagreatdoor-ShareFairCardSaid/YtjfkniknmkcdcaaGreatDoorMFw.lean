/- The walk of the law ShareFair. (printed by wip/gen/fw.py) -/
import Derived.Test.YtjfkniknmkcdcaaGreatDoorMFs
import Derived.Test.YtjfkniknmkcdcaaGreatDoorMQg
namespace Go.Proofs.YtjfkniknmkcdcaaGreatDoor
open Go.RowKit K Nu

theorem andnot_all : ∀ s : Nat, s < 16 → ∀ d : Nat, d < 4 → s.testBit d = true → bits .andNot .i64 (s : Int) ((2 ^ d : Nat) : Int) = ((s - 2 ^ d : Nat) : Int) := by decide +kernel
theorem cmp_same (b1 b2 : Bool) (v1 v2 v3 v4 : Value) (p : Rat) (w : World) (hp : QV w b1 v1 v2 p) (hq : QV w b2 v3 v4 p) (sp : Short p) :
    Calls Tryz.prog 22 #[.agg #[.bool b1, v1, v2], .agg #[.bool b2, v3, v4]] w fun e w' => e = .returned (.int .i64 0) ∧ Below w.heap.size w w' := by
  have h := frCmp_small b1 b2 v1 v2 v3 v4 p p w hp hq sp sp
  have e : cmpQ p p = 0 := by
    have := cmpQ_eq (p := p) (q := p)
    rw [decide_eq_true rfl] at this
    simpa using this
  rw [e] at h
  exact h
theorem sign_nought (b : Bool) (v1 v2 : Value) (w : World) (h : QV w b v1 v2 0) :
    Calls Tryz.prog 13 #[.agg #[.bool b, v1, v2]] w fun e w' => e = .returned (.int .i64 0) ∧ Below w.heap.size w w' := by
  have := frSign_any b v1 v2 (0 : Rat).num (dn (0 : Rat).den) w h.1 h.2 (by decide)
  exact this
theorem own_at {w : World} {base : Nat} {e : TypeId} {g n cap : Nat} {ts : List T3} (h : w.ownsRow base e 3 (.slice (some ⟨g, 0, none⟩) n cap) n (flat ts)) (ht : ts.length = n) {i : Nat} (hi : i < n) :
    ∃ b u v, ts[i]? = some (b, u, v) ∧ w.cell? ⟨g, i * 3, none⟩ = some (.bool b) ∧ w.cell? ⟨g, i * 3 + 1, none⟩ = some u ∧ w.cell? ⟨g, i * 3 + 2, none⟩ = some v ∧ ∀ j, w.frozen? ⟨g, j, none⟩ = false := own_cell3 h (by omega)

theorem shsS {v : List Rat} {n : Nat} (h : Fit v n) : ∀ q, q ∈ shs v n → Short q := by
  intro q hq
  simp only [shs, List.mem_map, List.mem_range] at hq
  obtain ⟨c, hc, rfl⟩ := hq
  exact h.a _ c (Nat.le_refl _) hc
theorem shs_len (v : List Rat) (n : Nat) : (shs v n).length = n := by simp [shs]
theorem get2 {Q : World → Bool → Value → Value → Rat → Prop} {w : World} {A : Option Addr} {n c : Nat} {qs : List Rat} (h : Row3 Q w (.slice A n c) qs) {i : Nat} (hi : i < qs.length) :
    ∃ g o b u v, A = some ⟨g, o, none⟩ ∧ g < w.heap.size ∧ w.cell? ⟨g, o + i * 3, none⟩ = some (.bool b) ∧ w.cell? ⟨g, o + i * 3 + 1, none⟩ = some u ∧ w.cell? ⟨g, o + i * 3 + 2, none⟩ = some v ∧ Q w b u v (qs.getD i 0) := by
  obtain ⟨A', c', e, -, -, hat⟩ := h.at
  injection e with e1 e2 e3
  subst e1
  obtain ⟨b, off, bb, u, v, e, hlt, h0, h1, h2, hQ⟩ := hat i hi
  exact ⟨b, off, bb, u, v, e, hlt, h0, h1, h2, hQ⟩

set_option maxRecDepth 100000 in
set_option maxHeartbeats 40000000 in
theorem shareFair_walk (v1 v2 v3 : Value) (l lm lo : List Int) (n dumb : Int) (w : World) (h1 : IsInts .i64 w v1 l) (h2 : IsInts .i64 w v2 lm) (h3 : IsInts .i64 w v3 lo) (hl1 : ∀ x, x ∈ l → I64 x) (hl2 : ∀ x, x ∈ lm → I64 x) (hF : Fac w) :
    Calls Tryz.prog 4 #[v1, v2, v3, .int .i64 n, .int .i64 dumb] w fun e w' => e = .returned (.bool true) ∧ Below w.heap.size w w' := by
  obtain ⟨k, hk⟩ : ∃ k, tk n = k := ⟨_, rfl⟩
  have hkl := tk_le n
  rw [hk] at hkl
  obtain ⟨S, hS⟩ : ∃ S, 2 ^ k = S := ⟨_, rfl⟩
  have hS16 : S ≤ 16 := by rw [← hS]; exact Nat.le_trans (Nat.pow_le_pow_right (by decide) hkl.2) (by decide)
  have hS1 : 0 < S := by rw [← hS]; exact Nat.two_pow_pos _
  have htb : tbm n 0 = S := by unfold tbm; rw [hk, if_neg (by decide), hS]; rfl
  have hT1 := table_any v1 l n 0 w h1 hl1
  have hT2 := fun (wd : World) (hb : Below w.heap.size w wd) => table_own v2 lm n 0 wd (h2.below hb (Nat.le_refl _)) hl2
  rw [hk, htb] at hT1
  simp only [hk, htb] at hT2
  obtain ⟨xv, hxv⟩ : ∃ xv, rowQ l S = xv := ⟨_, rfl⟩
  obtain ⟨yv, hyv⟩ : ∃ yv, rowQ lm S = yv := ⟨_, rfl⟩
  rw [hxv] at hT1
  rw [hyv] at hT2
  have hxl : xv.length = S := by rw [← hxv]; exact rowQ_len
  have hyl0 : yv.length = S := by rw [← hyv]; exact rowQ_len
  obtain ⟨zx, hX⟩ := tab_of (v := xv) (by rw [← hxv]; exact rowQ_twelve)
  obtain ⟨zy, hY⟩ := tab_of (v := yv) (by rw [← hyv]; exact rowQ_twelve)
  obtain ⟨d, hd⟩ : ∃ d : Nat, dumb % (k : Int) = d := ⟨(dumb % (k : Int)).toNat, by have := Int.emod_nonneg dumb (show (k : Int) ≠ 0 by omega); omega⟩
  have hdk : d < k := by have := Int.emod_lt_of_pos dumb (show (0 : Int) < k by omega); omega
  have hP := fun wd => pick_any dumb (k : Int) wd (by omega) (by omega)
  rw [hd] at hP
  replace hP := Lib.hid hP
  replace hT1 := Lib.hid hT1
  replace hT2 := Lib.hid hT2
  have HO := Lib.hid h3
  have HF := Lib.hid hF
  have HSP := Lib.hid hS
  have HXL := Lib.hid hxl
  have HYL := Lib.hid hyl0
  have HXT := Lib.hid hX
  have HYT := Lib.hid hY
  obtain ⟨i0, hi, hz0, hz1, hz2⟩ := info_parts Tryz.infoQ
  have hwd : IntKind.u64.wrap (d : Int) = d := by rw [wrap64u]; omega
  have hmd : min d IntKind.i64.bits = d := by have : IntKind.i64.bits = 64 := rfl; omega
  obtain ⟨AO, cO, eO, -⟩ := h3
  subst eO
  clear hk hS htb hxv hyv hxl hyl0 hX hY hd h1 h2 hl1 hl2 hF
  go_enter Tryz.func4, Tryz.ntmps4
  go_wp2_with fail
  refine hT1.out.mono ?_
  rintro e w1 ⟨r1, rfl, hr1, hb1⟩
  obtain ⟨Ax, cx, rfl, -, -, -⟩ := hr1.at
  rw [HXL.out] at hr1 ⊢
  have X1 := Lib.hid hr1
  have B1 := Lib.hid hb1
  clear hr1 hb1 hT1
  go_wp2_with fail
  refine (hT2.out _ B1.out).mono ?_
  rintro e wy ⟨ry, tsy, rfl, hyo, hyn, hyl, hyq, hyb⟩
  obtain ⟨gy, cy, rfl, hgy1, -, -⟩ := own_slice hyo (by omega)
  replace hyq := Lib.hid (show ∀ (i : Nat) (t : T3), tsy[i]? = some t → RQ wy t.1 t.2.1 t.2.2 (yv.getD i 0) from fun i t ht => hyq i t _ ht (by
    have hc := (List.getElem?_eq_some_iff.1 ht).1
    rw [List.getD_eq_getElem?_getD, List.getElem?_eq_getElem (by rw [HYL.out]; omega)]; rfl))
  replace hyo := Lib.hid hyo
  replace hyn := Lib.hid hyn
  replace hyl := Lib.hid hyl
  replace hyb := Lib.hid hyb
  clear hT2
  go_wp2_with fail
  refine (hP.out _).mono ?_
  rintro e w4 ⟨rfl, rfl⟩
  go_wp2_with fail
  go_loopw [15] (fun i wr => ∃ (s : Nat) (ts : List T3), s ≤ S ∧ i = .int .i64 s ∧ Hid (wr.ownsRow w1.heap.size 55 3 (.slice (some ⟨gy, 0, none⟩) S cy) S (flat ts)) ∧ Hid (NoInt wr (.slice (some ⟨gy, 0, none⟩) S cy)) ∧ Hid (ts.length = S) ∧ Hid (∀ (i : Nat) (t : T3), ts[i]? = some t → RQ wr t.1 t.2.1 t.2.2 (if i < s then yv.getD (clr i d) 0 else yv.getD i 0)) ∧ Hid (Below w1.heap.size w1 wr)) (fun i _ => S - (intOf i).toNat)
  case atStart => exact ⟨0, tsy, by omega, rfl, hyo, hyn, hyl, Lib.hid (fun i t ht => by rw [if_neg (by omega)]; exact hyq.out i t ht), hyb⟩
  case round =>
    obtain ⟨s, ts, hs, rfl, hown, hno, hts, hq, hbel⟩ := hrel
    by_cases hlt : s < S
    · have hbit := bit_at (s := s) (k := d) (by omega)
      have hcl := clr_all d (by omega) s (by omega)
      by_cases hb : s.testBit d = true
      · rw [if_pos hb] at hbit
        have hcs : clr s d = s - 2 ^ d := by unfold clr; rw [if_pos hb]
        have hd2 : 0 < 2 ^ d := Nat.two_pow_pos d
        have hle : 2 ^ d ≤ s := Nat.le_of_not_lt fun h => by rw [Nat.testBit_lt_two_pow h] at hb; cases hb
        have hand := andnot_all s (by omega) d (by omega) hb
        have hpz : (2 : Int) ^ d = ((2 ^ d : Nat) : Int) := by rw [Int.natCast_pow]; rfl
        rw [← hpz, ← hcs] at hand
        have hw : IntKind.i64.wrap ((2 : Int) ^ d) = 2 ^ d := by
          rw [hpz, IntKind.wrap_i64]
          generalize (2 : Nat) ^ d = X at *
          omega
        obtain ⟨c, hc⟩ : ∃ c, clr s d = c := ⟨_, rfl⟩
        rw [hc] at hand hcs hcl
        have hcs2 : c < s := by omega
        have hclc := (clr_all d (by omega) c (by omega)).2.2.2 hcl.2.1
        obtain ⟨bb, u1, u2, htc, y0, y1, y2, hfz⟩ := own_at hown.out hts.out (i := c) (by omega)
        have hQ := hq.out c _ htc
        rw [if_pos hcs2, hclc] at hQ
        obtain ⟨A1, k1, c1, A2, k2, c2, rfl, rfl⟩ := hQ.slices
        obtain ⟨bs, vs1, vs2, hts2, s0, s1, s2, -⟩ := own_at hown.out hts.out (i := s) hlt
        have z0 := hfz (s * 3)
        have z1 := hfz (s * 3 + 1)
        have z2 := hfz (s * 3 + 2)
        have hst := own_store3 hown.out hno.out (i := s) (by rw [hts.out]; exact hlt) (g := gy) rfl bb (.slice A1 k1 c1) (.slice A2 k2 c2) (by simp) (by simp)
        have hq2 := Lib.hid (show ∀ (i : Nat) (t : T3), (ts.set s (bb, .slice A1 k1 c1, .slice A2 k2 c2))[i]? = some t → RQ (((wr.setCell ⟨gy, s * 3, none⟩ (.bool bb)).setCell ⟨gy, s * 3 + 1, none⟩ (.slice A1 k1 c1)).setCell ⟨gy, s * 3 + 2, none⟩ (.slice A2 k2 c2)) t.1 t.2.1 t.2.2 (if i < s + 1 then yv.getD (clr i d) 0 else yv.getD i 0) from fun i t ht => by
          by_cases e : i = s
          · subst e
            rw [List.getElem?_set_self (by rw [hts.out]; exact hlt)] at ht
            simp only [Option.some.injEq] at ht
            subst ht
            rw [if_pos (Nat.lt_succ_self _), hc]
            exact hQ.grown hown.out hno.out hst.2.2
          · rw [List.getElem?_set_ne (by omega)] at ht
            rw [show (if i < s + 1 then yv.getD (clr i d) 0 else yv.getD i 0) = (if i < s then yv.getD (clr i d) 0 else yv.getD i 0) by
              by_cases h7 : i < s
              · rw [if_pos h7, if_pos (by omega)]
              · rw [if_neg h7, if_neg (by omega)]]
            exact (hq.out i t ht).grown hown.out hno.out hst.2.2)
        have hB2 := Lib.hid (show Below w1.heap.size w1 (((wr.setCell ⟨gy, s * 3, none⟩ (.bool bb)).setCell ⟨gy, s * 3 + 1, none⟩ (.slice A1 k1 c1)).setCell ⟨gy, s * 3 + 2, none⟩ (.slice A2 k2 c2)) from K.Below.grown hbel.out hst.2.2 (fun q hq => (hown.out.lt q hq).1) hbel.out.size)
        have HST := Lib.hid hst
        have hcS : (c : Int) < (S : Int) := by omega
        have hsS : (s : Int) < (S : Int) := by omega
        clear hb hcs hd2 hle hpz hcl hclc htc hts2 hQ hfz hst hq
        go_wp2_with fail
        go_roundw
        case rel => exact ⟨s + 1, _, by omega, by go_num, Lib.hid HST.out.1, Lib.hid HST.out.2.1, Lib.hid (by rw [List.length_set]; exact hts.out), hq2, hB2⟩
        case measure => simp [intOf]; omega
      · rw [if_neg hb] at hbit
        have hb0 : s.testBit d = false := by simpa using hb
        have hcs := hcl.2.2.2 hb0
        have hq2 := Lib.hid (show ∀ (i : Nat) (t : T3), ts[i]? = some t → RQ wr t.1 t.2.1 t.2.2 (if i < s + 1 then yv.getD (clr i d) 0 else yv.getD i 0) from fun i t ht => by
          have := hq.out i t ht
          by_cases e : i = s
          · subst e
            rw [if_neg (Nat.lt_irrefl _)] at this
            rw [if_pos (Nat.lt_succ_self _), hcs]; exact this
          · rw [show (if i < s + 1 then yv.getD (clr i d) 0 else yv.getD i 0) = (if i < s then yv.getD (clr i d) 0 else yv.getD i 0) by
              by_cases h7 : i < s
              · rw [if_pos h7, if_pos (by omega)]
              · rw [if_neg h7, if_neg (by omega)]]
            exact this)
        clear hb hb0 hcs hcl hq
        go_wp2_with fail
        go_roundw
        case rel => exact ⟨s + 1, ts, by omega, by go_num, hown, hno, hts, hq2, hbel⟩
        case measure => simp [intOf]; omega
    · obtain rfl : s = S := by omega
      obtain ⟨y2, hy2⟩ : ∃ y2, ymod yv d = y2 := ⟨_, rfl⟩
      have hy2l : y2.length = s := by rw [← hy2]; simp [ymod, HYL.out]
      have hY2 := Lib.hid (show Row3 RQ wr (.slice (some ⟨gy, 0, none⟩) s cy) y2 from own_row3 hown.out hy2l.symm (by rw [hts.out, hy2l]) (fun i t q ht hqi => by
        have h8 := hq.out i t ht
        have hi8 : i < s := by have := (List.getElem?_eq_some_iff.1 ht).1; rw [hts.out] at this; exact this
        rw [if_pos hi8] at h8
        rw [← hy2, ymod, List.getElem?_map, List.getElem?_range (by rw [HYL.out]; exact hi8)] at hqi
        injection hqi with hqi
        rw [← hqi]; exact h8))
      have hYT2 := ymod_tab HYT.out d
      rw [hy2] at hYT2
      obtain ⟨zy2, hzy2⟩ : ∃ z, (fun s => if s < yv.length then zy (clr s d) else 0) = z := ⟨_, rfl⟩
      rw [hzy2] at hYT2
      obtain ⟨zv, hzv⟩ : ∃ zv, addL xv y2 = zv := ⟨_, rfl⟩
      have hZT := add_tab HXT.out hYT2 (by rw [HXL.out, hy2l])
      rw [hzv] at hZT
      obtain ⟨zz, hzz⟩ : ∃ z, (fun s => zx s + zy2 s) = z := ⟨_, rfl⟩
      rw [hzz] at hZT
      have hzl : zv.length = s := by rw [← hzv]; simp [addL, HXL.out]
      have HY2 := Lib.hid hy2
      have HZD := Lib.hid hzv
      have HY2L := Lib.hid hy2l
      have HZL := Lib.hid hzl
      have HYT2 := Lib.hid hYT2
      have HZT := Lib.hid hZT
      have tiny : ∀ {v : List Rat} {z : Nat → Int} (h : Tab v z 240) (i : Nat), Tiny (v.getD i 0) := fun h i => by
        have := h.2 i
        rw [h.1]; exact lat_tiny (by decide) (by decide) (by omega) (by omega)
      have HTX := Lib.hid (fun i => tiny HXT.out i)
      have HTY := Lib.hid (fun i => tiny hYT2 i)
      have HSZ := Lib.hid (fun i => hZT.short (by decide) i)
      have HZ := Lib.hid (show ∀ j, j < s → zv.getD j 0 = xv.getD j 0 + y2.getD j 0 from fun j hj => by rw [← hzv, addL, getD_map, if_pos (by rw [HXL.out]; exact hj)])
      have X2 := Lib.hid (X1.out.below (fun _ _ _ _ h => h.below hbel.out (Nat.le_refl _)) hbel.out (Nat.le_refl _))
      have B2 := Lib.hid (B1.out.trans (hbel.out.mono B1.out.size))
      have hatx := X2.out.at
      obtain ⟨Ax', cx', ev, -, -, hatx⟩ := hatx
      rw [HXL.out] at ev hatx
      injection ev with ev1 _ ev2
      subst ev1 ev2
      have HATX := Lib.hid hatx
      have HATY := Lib.hid (show ∀ j, j < s → ∃ b u v, wr.cell? ⟨gy, j * 3, none⟩ = some (.bool b) ∧ wr.cell? ⟨gy, j * 3 + 1, none⟩ = some u ∧ wr.cell? ⟨gy, j * 3 + 2, none⟩ = some v ∧ RQ wr b u v (y2.getD j 0) from fun j hj => by
        obtain ⟨A, c, e, -, -, hat⟩ := hY2.out.at
        obtain ⟨b, off, bb, u, v, e2, -, h0, h1, h2, hQ⟩ := hat j (by rw [HY2L.out]; exact hj)
        injection e with e _ _
        rw [← e] at e2
        injection e2 with e2
        injection e2 with e3 e4
        subst e3 e4
        simp only [Nat.zero_add] at h0 h1 h2
        exact ⟨bb, u, v, h0, h1, h2, hQ⟩)
      have hgy := (hown.out.lt gy rfl).2
      clear hatx hown hno hts hq hbel hyo hyn hyl hyq hyb X1 B1 hy2 hy2l hYT2 hzy2 hzv hZT hzz hzl tiny hlt hs
      obtain ⟨w2, rfl⟩ : ∃ w2, w2 = wr := ⟨_, rfl⟩
      go_wp2_with fail
      go_loopw [16, 17] (fun out i wr => ∃ (j : Nat) (tz : List T3), j ≤ s ∧ i = .int .i64 j ∧ Hid (tz.length = j) ∧ Hid (wr.ownsRow w2.heap.size 40 3 out j (flat tz)) ∧ Hid (NoInt wr out) ∧ Hid (∀ (i : Nat) (t : T3) (q : Rat), tz[i]? = some t → zv[i]? = some q → QV wr t.1 t.2.1 t.2.2 q) ∧ Hid (Below w2.heap.size w2 wr)) (fun _ i _ => s - (intOf i).toNat)
      case atStart => exact ⟨0, [], by omega, rfl, Lib.hid rfl, Lib.hid (World.ownsRow_nil _ _ _ _), Lib.hid (NoInt.nil _), Lib.hid (by simp), Lib.hid (Below.refl _ _)⟩
      case round =>
        obtain ⟨j, tz, hj, rfl, hzl, hzo, hzn, hzq, hbel⟩ := hrel
        by_cases hlt : j < s
        · obtain ⟨gx, ox, x3, v3, v4, rfl, hgx, p0_0, p0_1, p0_2, hQx⟩ := HATX.out j hlt
          obtain ⟨x4, v5, v6, p0_3, p0_4, p0_5, hQy⟩ := HATY.out j hlt
          replace hQx := hQx.below hbel.out (Nat.le_refl _)
          replace hQy := hQy.below hbel.out (Nat.le_refl _)
          obtain ⟨A5, k5, c5, A6, k6, c6, rfl, rfl⟩ := hQx.slices
          obtain ⟨A7, k7, c7, A8, k8, c8, rfl, rfl⟩ := hQy.slices
          have q0_0 := (hbel.out.cell (p := ⟨gx, ox + j * 3, none⟩) hgx).trans p0_0
          have q0_1 := (hbel.out.cell (p := ⟨gx, ox + j * 3 + 1, none⟩) hgx).trans p0_1
          have q0_2 := (hbel.out.cell (p := ⟨gx, ox + j * 3 + 2, none⟩) hgx).trans p0_2
          have q0_3 := (hbel.out.cell (p := ⟨gy, j * 3, none⟩) hgy).trans p0_3
          have q0_4 := (hbel.out.cell (p := ⟨gy, j * 3 + 1, none⟩) hgy).trans p0_4
          have q0_5 := (hbel.out.cell (p := ⟨gy, j * 3 + 2, none⟩) hgy).trans p0_5
          have lgx : gx < wr.heap.size := Nat.lt_of_lt_of_le hgx hbel.out.size
          have lgy : gy < wr.heap.size := Nat.lt_of_lt_of_le hgy hbel.out.size
          have hA := Lib.hid (fun (wd : World) (hb : Below wr.heap.size wr wd) => radd_any x3 x4 _ _ _ _ _ _ wd (hQx.below hb (Nat.le_refl _)) (hQy.below hb (Nat.le_refl _)) (HTX.out j) (HTY.out j))
          have HZV := Lib.hid (HZ.out j hlt)
          have HZS := Lib.hid (show Short (xv.getD j 0 + y2.getD j 0) by rw [← HZV.out]; exact HSZ.out j)
          have hj3 : (j : Int) < (s : Int) := by omega
          replace p0_0 := p0_0
          clear hQx hQy
          go_upto_region 13 with fail
          go_region_held3 (fun w' => w'.cell? ⟨gx, ox + j * 3, none⟩ = some (Value.bool x3) ∧ w'.cell? ⟨gx, ox + j * 3 + 1, none⟩ = some (Value.slice A5 k5 c5) ∧ w'.cell? ⟨gx, ox + j * 3 + 2, none⟩ = some (Value.slice A6 k6 c6) ∧ w'.cell? ⟨gy, j * 3, none⟩ = some (Value.bool x4) ∧ w'.cell? ⟨gy, j * 3 + 1, none⟩ = some (Value.slice A7 k7 c7) ∧ w'.cell? ⟨gy, j * 3 + 2, none⟩ = some (Value.slice A8 k8 c8)) (go_keep)
            (first
              | ((refine step_append_noint rfl (.tmp 73) (.tmp 84) 29 rfl w2.heap.size 40 i0 (.agg #[.bool false, .slice none 0 0, .slice none 0 0]) 3 56 Tryz.underlying29 hi hz0 hz1 hz2 rfl (by decide) _ _ _ (by rfl) ((own_below hzo.out hB_2).alloc _) (noint_alloc (own_below hzo.out hB_2) (noint_below hzo.out hzn.out hB_2) _) z3_no ⟨w_2.heap.size, 0, none⟩ 1 1 [.bool b8, .slice E1 e1 f1, .slice E2 e2 f2] (by rfl) rfl (fun t u hu => by (rcases t with _ | _ | _ | t <;> simp at hu <;> subst hu <;> simp [Addr.add])) (fun u hu => by (simp at hu; rcases hu with rfl | rfl | rfl <;> rfl)) (fun u hu => by (simp at hu; rcases hu with rfl | rfl | rfl <;> simp)) (by decide) (by unfold maxLen; omega) (by omega) (by have := hB_2.size; have := hbel.out.size; simp; omega) ?_; intro v' w3 hown' hgrow hno'; have hlw : w2.heap.size ≤ w_2.heap.size := Nat.le_trans hbel.out.size hB_2.size; have hbel3 := Lib.hid (K.Below.grown ((hbel.out.trans (hB_2.mono hbel.out.size)).alloc hlw (.cells #[.bool b8, .slice E1 e1 f1, .slice E2 e2 f2] 40)) hgrow (fun q hq => (hzo.out.lt q hq).1) (by simp; omega)); have hq3 := Lib.hid (show ∀ (i : Nat) (t : T3) (q : Rat), (tz ++ [(b8, Value.slice E1 e1 f1, Value.slice E2 e2 f2)])[i]? = some t → zv[i]? = some q → QV w3 t.1 t.2.1 t.2.2 q from facts_snoc (fun i t q ht hqi => (((hzq.out i t q ht hqi).below hB_2 (Nat.le_refl _)).alloc _).grown ((own_below hzo.out hB_2).alloc _) (noint_alloc (own_below hzo.out hB_2) (noint_below hzo.out hzn.out hB_2) _) hgrow) (fun q hqq => by (rw [hzl.out] at hqq; have e9 := HZV.out; rw [List.getD_eq_getElem?_getD, hqq, Option.getD_some] at e9; rw [e9]; exact (HQ8.out.alloc _).grown ((own_below hzo.out hB_2).alloc _) (noint_alloc (own_below hzo.out hB_2) (noint_below hzo.out hzn.out hB_2) _) hgrow))); have hown3 := Lib.hid (show w3.ownsRow w2.heap.size 40 3 v' (j + 1) (flat (tz ++ [(b8, Value.slice E1 e1 f1, Value.slice E2 e2 f2)])) by rw [flat_append]; exact hown'); have hno3 := Lib.hid hno'; have q3_0 : w3.cell? ⟨gx, ox + j * 3, none⟩ = some (Value.bool x3) := (hbel3.out.cell (p := ⟨gx, ox + j * 3, none⟩) hgx).trans p0_0; have q3_1 : w3.cell? ⟨gx, ox + j * 3 + 1, none⟩ = some (Value.slice A5 k5 c5) := (hbel3.out.cell (p := ⟨gx, ox + j * 3 + 1, none⟩) hgx).trans p0_1; have q3_2 : w3.cell? ⟨gx, ox + j * 3 + 2, none⟩ = some (Value.slice A6 k6 c6) := (hbel3.out.cell (p := ⟨gx, ox + j * 3 + 2, none⟩) hgx).trans p0_2; have q3_3 : w3.cell? ⟨gy, j * 3, none⟩ = some (Value.bool x4) := (hbel3.out.cell (p := ⟨gy, j * 3, none⟩) hgy).trans p0_3; have q3_4 : w3.cell? ⟨gy, j * 3 + 1, none⟩ = some (Value.slice A7 k7 c7) := (hbel3.out.cell (p := ⟨gy, j * 3 + 1, none⟩) hgy).trans p0_4; have q3_5 : w3.cell? ⟨gy, j * 3 + 2, none⟩ = some (Value.slice A8 k8 c8) := (hbel3.out.cell (p := ⟨gy, j * 3 + 2, none⟩) hgy).trans p0_5; clear hgrow hown' hno' hB_2 hlw))
              | ((go_at_call 18; refine (in_any _ _ _ _ w_1 HQ7.out HZS.out).mono ?_; rintro e w_2 ⟨b8, v9, v10, rfl, hq8, hb_2⟩; have hB_2 : Below wr.heap.size wr w_2 := hB_1.out.trans (hb_2.mono hB_1.out.size); have q2_0 : w_2.cell? ⟨gx, ox + j * 3, none⟩ = some (Value.bool x3) := (hb_2.cell (p := ⟨gx, ox + j * 3, none⟩) (Nat.lt_of_lt_of_le lgx hB_1.out.size)).trans q1_0; have q2_1 : w_2.cell? ⟨gx, ox + j * 3 + 1, none⟩ = some (Value.slice A5 k5 c5) := (hb_2.cell (p := ⟨gx, ox + j * 3 + 1, none⟩) (Nat.lt_of_lt_of_le lgx hB_1.out.size)).trans q1_1; have q2_2 : w_2.cell? ⟨gx, ox + j * 3 + 2, none⟩ = some (Value.slice A6 k6 c6) := (hb_2.cell (p := ⟨gx, ox + j * 3 + 2, none⟩) (Nat.lt_of_lt_of_le lgx hB_1.out.size)).trans q1_2; have q2_3 : w_2.cell? ⟨gy, j * 3, none⟩ = some (Value.bool x4) := (hb_2.cell (p := ⟨gy, j * 3, none⟩) (Nat.lt_of_lt_of_le lgy hB_1.out.size)).trans q1_3; have q2_4 : w_2.cell? ⟨gy, j * 3 + 1, none⟩ = some (Value.slice A7 k7 c7) := (hb_2.cell (p := ⟨gy, j * 3 + 1, none⟩) (Nat.lt_of_lt_of_le lgy hB_1.out.size)).trans q1_4; have q2_5 : w_2.cell? ⟨gy, j * 3 + 2, none⟩ = some (Value.slice A8 k8 c8) := (hb_2.cell (p := ⟨gy, j * 3 + 2, none⟩) (Nat.lt_of_lt_of_le lgy hB_1.out.size)).trans q1_5; obtain ⟨E1, e1, f1, E2, e2, f2, rfl, rfl⟩ := hq8.slices; have HQ8 := Lib.hid hq8; clear hq8 hb_2 q1_0 q1_1 q1_2 q1_3 q1_4 q1_5))
              | ((go_at_call 19; refine (hA.out _ ((Below.refl _ _).drew)).mono ?_; rintro e w_1 ⟨b7, v9, v10, rfl, hq7, hb_1⟩; have hB_1 := Lib.hid ((Below.refl wr.heap.size wr).drew.trans hb_1); have q1_0 : w_1.cell? ⟨gx, ox + j * 3, none⟩ = some (Value.bool x3) := (hb_1.cell (p := ⟨gx, ox + j * 3, none⟩) lgx).trans q0_0; have q1_1 : w_1.cell? ⟨gx, ox + j * 3 + 1, none⟩ = some (Value.slice A5 k5 c5) := (hb_1.cell (p := ⟨gx, ox + j * 3 + 1, none⟩) lgx).trans q0_1; have q1_2 : w_1.cell? ⟨gx, ox + j * 3 + 2, none⟩ = some (Value.slice A6 k6 c6) := (hb_1.cell (p := ⟨gx, ox + j * 3 + 2, none⟩) lgx).trans q0_2; have q1_3 : w_1.cell? ⟨gy, j * 3, none⟩ = some (Value.bool x4) := (hb_1.cell (p := ⟨gy, j * 3, none⟩) lgy).trans q0_3; have q1_4 : w_1.cell? ⟨gy, j * 3 + 1, none⟩ = some (Value.slice A7 k7 c7) := (hb_1.cell (p := ⟨gy, j * 3 + 1, none⟩) lgy).trans q0_4; have q1_5 : w_1.cell? ⟨gy, j * 3 + 2, none⟩ = some (Value.slice A8 k8 c8) := (hb_1.cell (p := ⟨gy, j * 3 + 2, none⟩) lgy).trans q0_5; obtain ⟨D1, d1, g1, D2, d2, g2, rfl, rfl⟩ := hq7.slices; have HQ7 := Lib.hid hq7; clear hq7 hb_1))
              | ((fail)))
          all_goals go_wp2_with fail
          all_goals
            go_roundw
            case rel => exact ⟨j + 1, _, by omega, by go_num, Lib.hid (by simp [hzl.out]), hown3, hno3, hq3, hbel3⟩
            case measure => simp [intOf]; omega
        · obtain rfl : j = s := by omega
          obtain ⟨gz, cz, rfl, -, -, -⟩ := own_slice hzo.out (by omega)
          have Z := Lib.hid (show Row3 QV wr (.slice (some ⟨gz, 0, none⟩) j cz) zv from own_row3 hzo.out HZL.out.symm (by rw [hzl.out, HZL.out]) hzq.out)
          have hgz := (hzo.out.lt gz rfl).2
          have X := Lib.hid (X2.out.below (fun _ _ _ _ h => h.below hbel.out (Nat.le_refl _)) hbel.out (Nat.le_refl _))
          have Y := Lib.hid (hY2.out.below (fun _ _ _ _ h => h.below hbel.out (Nat.le_refl _)) hbel.out (Nat.le_refl _))
          have B := Lib.hid (B2.out.trans (hbel.out.mono B2.out.size))
          have F := Lib.hid (HF.out.below B.out (Nat.le_refl _))
          have O := Lib.hid (HO.out.below B.out (Nat.le_refl _))
          have cl : ∀ {v : List Rat}, v.length = j → cols v.length = k := fun h => by rw [h, ← HSP.out]; exact cols_pow hkl.1 (by omega)
          have HCX := Lib.hid (cl HXL.out)
          have HCY := Lib.hid (cl HY2L.out)
          have HCZ := Lib.hid (cl HZL.out)
          have HFX := Lib.hid (tab_fit HXT.out (by decide) (show k ≤ 10 by omega))
          have HFY := Lib.hid (tab_fit HYT2.out (by decide) (show k ≤ 10 by omega))
          have HFZ := Lib.hid (tab_fit HZT.out (by decide) (show k ≤ 10 by omega))
          have HSX := Lib.hid HFX.out.sv
          have HSY := Lib.hid HFY.out.sv
          have HSV := Lib.hid HFZ.out.sv
          have HLX := Lib.hid (show xv.length ≤ 4096 by rw [HXL.out]; omega)
          have HLY := Lib.hid (show y2.length ≤ 4096 by rw [HY2L.out]; omega)
          have HPA := Lib.hid (prm_all lo k)
          have HT := Lib.hid (show tgo zv (prm lo k) 0 (List.replicate k 0) = some (tset zv (prm lo k) 0 (List.replicate k 0)) from tgo_some zv _ 0 _ HPA.out.2.2 (fun c hc => ⟨by rw [List.length_replicate]; exact HPA.out.2.1 c hc, by simp⟩))
          have HH := Lib.hid (hav_all hkl.2 HPA.out.1 HPA.out.2.1 HPA.out.2.2)
          have hk0 : k ≠ 0 := by omega
          have tkk : ((k : Int) != (k : Int)) = false := by simp
          clear hzl hzo hzn hzq hbel X2 hY2 B2 HF HO HATX HATY HTX HTY cl hlt hj hgy HZ
          go_wp2_with fail
          refine (inRow_any _ xv _ X.out HSX.out HLX.out).mono ?_
          rintro e w10 ⟨rX, rfl, hr, hb⟩
          have X_1 := Lib.hid (X.out.below (fun _ _ _ _ h => h.below hb (Nat.le_refl _)) hb (Nat.le_refl _))
          have Y_1 := Lib.hid (Y.out.below (fun _ _ _ _ h => h.below hb (Nat.le_refl _)) hb (Nat.le_refl _))
          have Z_1 := Lib.hid (Z.out.below (fun _ _ _ _ h => h.below hb (Nat.le_refl _)) hb (Nat.le_refl _))
          have B_1 := Lib.hid (B.out.trans (hb.mono B.out.size))
          have F_1 := Lib.hid (F.out.below hb (Nat.le_refl _))
          have O_1 := Lib.hid (O.out.below hb (Nat.le_refl _))
          clear hb X Y Z B F O
          have A0 := Lib.hid hr
          clear hr
          clear X_1
          go_wp2_with fail
          refine (shares_ok _ xv k _ A0.out HCX.out hk0 F_1.out HFX.out).mono ?_
          rintro e w11 ⟨rA, rfl, hr, hb⟩
          obtain ⟨Sa, da, rfl, -, -, -⟩ := hr.at
          rw [shs_len] at hr ⊢
          have Y_2 := Lib.hid (Y_1.out.below (fun _ _ _ _ h => h.below hb (Nat.le_refl _)) hb (Nat.le_refl _))
          have Z_2 := Lib.hid (Z_1.out.below (fun _ _ _ _ h => h.below hb (Nat.le_refl _)) hb (Nat.le_refl _))
          have B_2 := Lib.hid (B_1.out.trans (hb.mono B_1.out.size))
          have F_2 := Lib.hid (F_1.out.below hb (Nat.le_refl _))
          have O_2 := Lib.hid (O_1.out.below hb (Nat.le_refl _))
          have A0_2 := Lib.hid (A0.out.below (fun _ _ _ _ h => h.below hb (Nat.le_refl _)) hb (Nat.le_refl _))
          clear hb Y_1 Z_1 B_1 F_1 O_1 A0
          have A := Lib.hid hr
          clear hr
          clear A0_2
          go_wp2_with fail
          refine (inRow_any _ y2 _ Y_2.out HSY.out HLY.out).mono ?_
          rintro e w12 ⟨rY, rfl, hr, hb⟩
          have Y_3 := Lib.hid (Y_2.out.below (fun _ _ _ _ h => h.below hb (Nat.le_refl _)) hb (Nat.le_refl _))
          have Z_3 := Lib.hid (Z_2.out.below (fun _ _ _ _ h => h.below hb (Nat.le_refl _)) hb (Nat.le_refl _))
          have B_3 := Lib.hid (B_2.out.trans (hb.mono B_2.out.size))
          have F_3 := Lib.hid (F_2.out.below hb (Nat.le_refl _))
          have O_3 := Lib.hid (O_2.out.below hb (Nat.le_refl _))
          have A_3 := Lib.hid (A.out.below (fun _ _ _ _ h => h.below hb (Nat.le_refl _)) hb (Nat.le_refl _))
          clear hb Y_2 Z_2 B_2 F_2 O_2 A
          have A0 := Lib.hid hr
          clear hr
          clear Y_3
          go_wp2_with fail
          refine (shares_ok _ y2 k _ A0.out HCY.out hk0 F_3.out HFY.out).mono ?_
          rintro e w13 ⟨rB, rfl, hr, hb⟩
          obtain ⟨Sb, db, rfl, -, -, -⟩ := hr.at
          rw [shs_len] at hr ⊢
          have Z_4 := Lib.hid (Z_3.out.below (fun _ _ _ _ h => h.below hb (Nat.le_refl _)) hb (Nat.le_refl _))
          have B_4 := Lib.hid (B_3.out.trans (hb.mono B_3.out.size))
          have F_4 := Lib.hid (F_3.out.below hb (Nat.le_refl _))
          have O_4 := Lib.hid (O_3.out.below hb (Nat.le_refl _))
          have A_4 := Lib.hid (A_3.out.below (fun _ _ _ _ h => h.below hb (Nat.le_refl _)) hb (Nat.le_refl _))
          have A0_4 := Lib.hid (A0.out.below (fun _ _ _ _ h => h.below hb (Nat.le_refl _)) hb (Nat.le_refl _))
          clear hb Z_3 B_3 F_3 O_3 A_3 A0
          have D := Lib.hid hr
          clear hr
          clear A0_4
          go_wp2_with fail
          refine (shares_ok _ zv k _ Z_4.out HCZ.out hk0 F_4.out HFZ.out).mono ?_
          rintro e w14 ⟨rC, rfl, hr, hb⟩
          obtain ⟨Sc, dc, rfl, -, -, -⟩ := hr.at
          rw [shs_len] at hr ⊢
          have Z_5 := Lib.hid (Z_4.out.below (fun _ _ _ _ h => h.below hb (Nat.le_refl _)) hb (Nat.le_refl _))
          have B_5 := Lib.hid (B_4.out.trans (hb.mono B_4.out.size))
          have F_5 := Lib.hid (F_4.out.below hb (Nat.le_refl _))
          have O_5 := Lib.hid (O_4.out.below hb (Nat.le_refl _))
          have A_5 := Lib.hid (A_4.out.below (fun _ _ _ _ h => h.below hb (Nat.le_refl _)) hb (Nat.le_refl _))
          have D_5 := Lib.hid (D.out.below (fun _ _ _ _ h => h.below hb (Nat.le_refl _)) hb (Nat.le_refl _))
          clear hb Z_4 B_4 F_4 O_4 A_4 D
          have E := Lib.hid hr
          clear hr
          go_wp2_with fail
          refine (permuted_any _ lo k _ O_5.out hkl.2).mono ?_
          rintro e w15 ⟨rO, rfl, hr, hb⟩
          have Z_6 := Lib.hid (Z_5.out.below (fun _ _ _ _ h => h.below hb (Nat.le_refl _)) hb (Nat.le_refl _))
          have B_6 := Lib.hid (B_5.out.trans (hb.mono B_5.out.size))
          have F_6 := Lib.hid (F_5.out.below hb (Nat.le_refl _))
          have O_6 := Lib.hid (O_5.out.below hb (Nat.le_refl _))
          have A_6 := Lib.hid (A_5.out.below (fun _ _ _ _ h => h.below hb (Nat.le_refl _)) hb (Nat.le_refl _))
          have D_6 := Lib.hid (D_5.out.below (fun _ _ _ _ h => h.below hb (Nat.le_refl _)) hb (Nat.le_refl _))
          have E_6 := Lib.hid (E.out.below (fun _ _ _ _ h => h.below hb (Nat.le_refl _)) hb (Nat.le_refl _))
          clear hb Z_5 B_5 F_5 O_5 A_5 D_5 E
          have P := Lib.hid hr
          clear hr
          clear O_6
          go_wp2_with fail
          refine (turns_ok _ _ zv (prm lo k) k _ _ Z_6.out P.out HCZ.out hk0 (prm_all lo k).1 HSV.out HT.out).mono ?_
          rintro e w16 ⟨rT, rfl, hr, hb⟩
          have Z_7 := Lib.hid (Z_6.out.below (fun _ _ _ _ h => h.below hb (Nat.le_refl _)) hb (Nat.le_refl _))
          have B_7 := Lib.hid (B_6.out.trans (hb.mono B_6.out.size))
          have F_7 := Lib.hid (F_6.out.below hb (Nat.le_refl _))
          have A_7 := Lib.hid (A_6.out.below (fun _ _ _ _ h => h.below hb (Nat.le_refl _)) hb (Nat.le_refl _))
          have D_7 := Lib.hid (D_6.out.below (fun _ _ _ _ h => h.below hb (Nat.le_refl _)) hb (Nat.le_refl _))
          have E_7 := Lib.hid (E_6.out.below (fun _ _ _ _ h => h.below hb (Nat.le_refl _)) hb (Nat.le_refl _))
          have P_7 := Lib.hid (P.out.below hb (Nat.le_refl _))
          clear hb Z_6 B_6 F_6 A_6 D_6 E_6 P
          have T := Lib.hid hr
          clear hr
          clear P_7
          go_wp2_with fail
          have wl := B_7.out.size
          have HA := Lib.hid A_7.out
          have HD := Lib.hid D_7.out
          have HE0 := Lib.hid E_7.out
          go_loopw [27] (fun m wr => ∃ i : Nat, i ≤ k ∧ m = .int .i64 i ∧ Hid (Below w16.heap.size w16 wr)) (fun m _ => k - (intOf m).toNat)
          case atStart => exact ⟨0, by omega, rfl, Lib.hid (Below.refl _ _)⟩
          case round =>
            obtain ⟨i, hik, rfl, hbel⟩ := hrel
            by_cases hlt : i < k
            · obtain ⟨gA, oA, x1, u1, u2, eA, hgA, y0, y1, y2', hQA⟩ := get2 HA.out (i := i) (by rw [shs_len]; exact hlt)
              obtain ⟨gB, oB, x2, u3, u4, eB, hgB, y3, y4, y5, hQB⟩ := get2 HD.out (i := i) (by rw [shs_len]; exact hlt)
              obtain ⟨gC, oC, x3, u5, u6, eC, hgC, y6, y7, y8, hQC⟩ := get2 HE0.out (i := i) (by rw [shs_len]; exact hlt)
              subst eA eB eC
              replace hQA := hQA.below hbel.out (Nat.le_refl _)
              replace hQB := hQB.below hbel.out (Nat.le_refl _)
              replace hQC := hQC.below hbel.out (Nat.le_refl _)
              obtain ⟨A1, k1, c1, A2, k2, c2, rfl, rfl⟩ := hQA.slices
              obtain ⟨A3, k3, c3, A4, k4, c4, rfl, rfl⟩ := hQB.slices
              obtain ⟨A5, k5, c5, A6, k6, c6, rfl, rfl⟩ := hQC.slices
              have q0_0 := (hbel.out.cell (p := ⟨gA, oA + i * 3, none⟩) hgA).trans y0
              have q0_1 := (hbel.out.cell (p := ⟨gA, oA + i * 3 + 1, none⟩) hgA).trans y1
              have q0_2 := (hbel.out.cell (p := ⟨gA, oA + i * 3 + 2, none⟩) hgA).trans y2'
              have q0_3 := (hbel.out.cell (p := ⟨gB, oB + i * 3, none⟩) hgB).trans y3
              have q0_4 := (hbel.out.cell (p := ⟨gB, oB + i * 3 + 1, none⟩) hgB).trans y4
              have q0_5 := (hbel.out.cell (p := ⟨gB, oB + i * 3 + 2, none⟩) hgB).trans y5
              have q0_6 := (hbel.out.cell (p := ⟨gC, oC + i * 3, none⟩) hgC).trans y6
              have q0_7 := (hbel.out.cell (p := ⟨gC, oC + i * 3 + 1, none⟩) hgC).trans y7
              have q0_8 := (hbel.out.cell (p := ⟨gC, oC + i * 3 + 2, none⟩) hgC).trans y8
              have lhgA : gA < wr.heap.size := Nat.lt_of_lt_of_le hgA hbel.out.size
              have lhgB : gB < wr.heap.size := Nat.lt_of_lt_of_le hgB hbel.out.size
              have lhgC : gC < wr.heap.size := Nat.lt_of_lt_of_le hgC hbel.out.size
              have hA := Lib.hid (fun (wd : World) (hb : Below wr.heap.size wr wd) => frAdd_small x1 x2 _ _ _ _ _ _ wd (hQA.below hb (Nat.le_refl _)) (hQB.below hb (Nat.le_refl _)) (shsS HFX.out _ (getD_mem' (by rw [shs_len]; exact hlt))) (shsS HFY.out _ (getD_mem' (by rw [shs_len]; exact hlt))))
              have HE := Lib.hid (show (shs xv k).getD i 0 + (shs y2 k).getD i 0 = (shs zv k).getD i 0 by rw [← HZD.out]; exact shs_add HXT.out HYT2.out (by rw [HXL.out, HY2L.out]) hkl.2 hlt)
              have HQC := Lib.hid hQC
              have HSC := Lib.hid (shsS HFZ.out _ (getD_mem' (l := shs zv k) (i := i) (by rw [shs_len]; exact hlt)))
              have hi3 : (i : Int) < (k : Int) := by omega
              clear y0 y1 y2' y3 y4 y5 y6 y7 y8 hQA hQB hQC
              go_upto_region 24 with fail
              go_region_held3 (fun w' => w'.cell? ⟨gA, oA + i * 3, none⟩ = some (Value.bool x1) ∧ w'.cell? ⟨gA, oA + i * 3 + 1, none⟩ = some (Value.slice A1 k1 c1) ∧ w'.cell? ⟨gA, oA + i * 3 + 2, none⟩ = some (Value.slice A2 k2 c2) ∧ w'.cell? ⟨gB, oB + i * 3, none⟩ = some (Value.bool x2) ∧ w'.cell? ⟨gB, oB + i * 3 + 1, none⟩ = some (Value.slice A3 k3 c3) ∧ w'.cell? ⟨gB, oB + i * 3 + 2, none⟩ = some (Value.slice A4 k4 c4) ∧ w'.cell? ⟨gC, oC + i * 3, none⟩ = some (Value.bool x3) ∧ w'.cell? ⟨gC, oC + i * 3 + 1, none⟩ = some (Value.slice A5 k5 c5) ∧ w'.cell? ⟨gC, oC + i * 3 + 2, none⟩ = some (Value.slice A6 k6 c6)) (go_keep)
                (first
                  | ((go_at_call 22; refine (cmp_same _ _ _ _ _ _ _ w_1 HQ7.out (HQC.out.below hB_1 (Nat.le_refl _)) HSC.out).mono ?_; rintro e w_2 ⟨rfl, hb_2⟩; have hB_2 := Lib.hid (hB_1.trans (hb_2.mono hB_1.size)); have q2_0 : w_2.cell? ⟨gA, oA + i * 3, none⟩ = some (Value.bool x1) := (hb_2.cell (p := ⟨gA, oA + i * 3, none⟩) (Nat.lt_of_lt_of_le lhgA hB_1.size)).trans q1_0; have q2_1 : w_2.cell? ⟨gA, oA + i * 3 + 1, none⟩ = some (Value.slice A1 k1 c1) := (hb_2.cell (p := ⟨gA, oA + i * 3 + 1, none⟩) (Nat.lt_of_lt_of_le lhgA hB_1.size)).trans q1_1; have q2_2 : w_2.cell? ⟨gA, oA + i * 3 + 2, none⟩ = some (Value.slice A2 k2 c2) := (hb_2.cell (p := ⟨gA, oA + i * 3 + 2, none⟩) (Nat.lt_of_lt_of_le lhgA hB_1.size)).trans q1_2; have q2_3 : w_2.cell? ⟨gB, oB + i * 3, none⟩ = some (Value.bool x2) := (hb_2.cell (p := ⟨gB, oB + i * 3, none⟩) (Nat.lt_of_lt_of_le lhgB hB_1.size)).trans q1_3; have q2_4 : w_2.cell? ⟨gB, oB + i * 3 + 1, none⟩ = some (Value.slice A3 k3 c3) := (hb_2.cell (p := ⟨gB, oB + i * 3 + 1, none⟩) (Nat.lt_of_lt_of_le lhgB hB_1.size)).trans q1_4; have q2_5 : w_2.cell? ⟨gB, oB + i * 3 + 2, none⟩ = some (Value.slice A4 k4 c4) := (hb_2.cell (p := ⟨gB, oB + i * 3 + 2, none⟩) (Nat.lt_of_lt_of_le lhgB hB_1.size)).trans q1_5; have q2_6 : w_2.cell? ⟨gC, oC + i * 3, none⟩ = some (Value.bool x3) := (hb_2.cell (p := ⟨gC, oC + i * 3, none⟩) (Nat.lt_of_lt_of_le lhgC hB_1.size)).trans q1_6; have q2_7 : w_2.cell? ⟨gC, oC + i * 3 + 1, none⟩ = some (Value.slice A5 k5 c5) := (hb_2.cell (p := ⟨gC, oC + i * 3 + 1, none⟩) (Nat.lt_of_lt_of_le lhgC hB_1.size)).trans q1_7; have q2_8 : w_2.cell? ⟨gC, oC + i * 3 + 2, none⟩ = some (Value.slice A6 k6 c6) := (hb_2.cell (p := ⟨gC, oC + i * 3 + 2, none⟩) (Nat.lt_of_lt_of_le lhgC hB_1.size)).trans q1_8; clear hb_2 hB_1))
                  | ((go_at_call 21; refine (hA.out _ ((Below.refl _ _).drew)).mono ?_; rintro e w_1 ⟨b7, v9, v10, rfl, hq7, hb_1⟩; have hB_1 := (Below.refl wr.heap.size wr).drew.trans hb_1; have q1_0 : w_1.cell? ⟨gA, oA + i * 3, none⟩ = some (Value.bool x1) := (hb_1.cell (p := ⟨gA, oA + i * 3, none⟩) lhgA).trans q0_0; have q1_1 : w_1.cell? ⟨gA, oA + i * 3 + 1, none⟩ = some (Value.slice A1 k1 c1) := (hb_1.cell (p := ⟨gA, oA + i * 3 + 1, none⟩) lhgA).trans q0_1; have q1_2 : w_1.cell? ⟨gA, oA + i * 3 + 2, none⟩ = some (Value.slice A2 k2 c2) := (hb_1.cell (p := ⟨gA, oA + i * 3 + 2, none⟩) lhgA).trans q0_2; have q1_3 : w_1.cell? ⟨gB, oB + i * 3, none⟩ = some (Value.bool x2) := (hb_1.cell (p := ⟨gB, oB + i * 3, none⟩) lhgB).trans q0_3; have q1_4 : w_1.cell? ⟨gB, oB + i * 3 + 1, none⟩ = some (Value.slice A3 k3 c3) := (hb_1.cell (p := ⟨gB, oB + i * 3 + 1, none⟩) lhgB).trans q0_4; have q1_5 : w_1.cell? ⟨gB, oB + i * 3 + 2, none⟩ = some (Value.slice A4 k4 c4) := (hb_1.cell (p := ⟨gB, oB + i * 3 + 2, none⟩) lhgB).trans q0_5; have q1_6 : w_1.cell? ⟨gC, oC + i * 3, none⟩ = some (Value.bool x3) := (hb_1.cell (p := ⟨gC, oC + i * 3, none⟩) lhgC).trans q0_6; have q1_7 : w_1.cell? ⟨gC, oC + i * 3 + 1, none⟩ = some (Value.slice A5 k5 c5) := (hb_1.cell (p := ⟨gC, oC + i * 3 + 1, none⟩) lhgC).trans q0_7; have q1_8 : w_1.cell? ⟨gC, oC + i * 3 + 2, none⟩ = some (Value.slice A6 k6 c6) := (hb_1.cell (p := ⟨gC, oC + i * 3 + 2, none⟩) lhgC).trans q0_8; obtain ⟨D1, d1, g1, D2, d2, g2, rfl, rfl⟩ := hq7.slices; rw [HE.out] at hq7; have HQ7 := Lib.hid hq7; clear hq7 hb_1))
                  | ((fail)))
              all_goals go_wp2_with fail
              all_goals
                go_roundw
                case rel => exact ⟨i + 1, by omega, by go_num, Lib.hid (hbel.out.trans (hB_2.out.mono hbel.out.size))⟩
                case measure => simp [intOf]; omega
            · obtain rfl : i = k := by omega
              clear HA HD HE0
              have hb := hbel.out
              clear hbel hlt hik
              have Z_8 := Lib.hid (Z_7.out.below (fun _ _ _ _ h => h.below hb (Nat.le_refl _)) hb (Nat.le_refl _))
              have B_8 := Lib.hid (B_7.out.trans (hb.mono B_7.out.size))
              have F_8 := Lib.hid (F_7.out.below hb (Nat.le_refl _))
              have A_8 := Lib.hid (A_7.out.below (fun _ _ _ _ h => h.below hb (Nat.le_refl _)) hb (Nat.le_refl _))
              have D_8 := Lib.hid (D_7.out.below (fun _ _ _ _ h => h.below hb (Nat.le_refl _)) hb (Nat.le_refl _))
              have E_8 := Lib.hid (E_7.out.below (fun _ _ _ _ h => h.below hb (Nat.le_refl _)) hb (Nat.le_refl _))
              have T_8 := Lib.hid (T.out.below (fun _ _ _ _ h => h.below hb (Nat.le_refl _)) hb (Nat.le_refl _))
              clear hb Z_7 B_7 F_7 A_7 D_7 E_7 T
              obtain ⟨m1, hm1⟩ : ∃ m1, j = m1 + 1 := ⟨j - 1, by omega⟩
              obtain ⟨gZ, oZ, z1, u1, u2, eZ, hgZ, y0, y1, y2', hQ1⟩ := get2 Z_8.out (i := m1) (by rw [HZL.out]; omega)
              obtain ⟨gZ', oZ', z2, u3, u4, eZ', -, y3, y4, y5, hQ0⟩ := get2 Z_8.out (i := 0) (by rw [HZL.out]; omega)
              rw [eZ] at eZ'
              injection eZ' with eZ'
              injection eZ' with e1 e2
              subst e1 e2
              injection eZ with eZ
              injection eZ with e1 e2
              subst e1 e2
              simp only [Nat.zero_mul, Nat.zero_add] at y0 y1 y2' y3 y4 y5
              obtain ⟨A1, k1, c1, A2, k2, c2, rfl, rfl⟩ := hQ1.slices
              obtain ⟨A3, k3, c3, A4, k4, c4, rfl, rfl⟩ := hQ0.slices
              have hw1 : IntKind.i64.wrap ((j : Int) - 1) = m1 := by rw [IntKind.wrap_i64]; omega
              have hm3 : (m1 : Int) < (j : Int) := by omega
              have hj0 : (0 : Int) < (j : Int) := by omega
              have hS := Lib.hid (fun (wd : World) (hb : Below wr.heap.size wr wd) => frSub_small z1 z2 _ _ _ _ _ _ wd (hQ1.below hb (Nat.le_refl _)) (hQ0.below hb (Nat.le_refl _)) (HSZ.out m1) (HSZ.out 0))
              have nz1 : ¬ wr.heap.size = gz := by omega
              have nz2 : ¬ gz = wr.heap.size := by omega
              have HM1 := Lib.hid hm1
              clear hQ1 hQ0 hm1
              go_upto_region 27 with fail
              go_cut [28] (fun u wc => ∃ (pp : Nat) (b' : Bool) (A1 : Option Addr) (k1 c1 : Nat) (A2 : Option Addr) (k2 c2 : Nat), u = .pointer (some ⟨pp, 0, none⟩) ∧ Blk wc pp [.bool b', .slice A1 k1 c1, .slice A2 k2 c2] 40 ∧ QV wc b' (.slice A1 k1 c1) (.slice A2 k2 c2) (zv.getD m1 0 - zv.getD 0 0) ∧ Below wr.heap.size wr wc)
              case first =>
                go_region_held3 (fun w' => w'.cell? ⟨gz, m1 * 3, none⟩ = some (Value.bool z1) ∧ w'.cell? ⟨gz, m1 * 3 + 1, none⟩ = some (Value.slice A1 k1 c1) ∧ w'.cell? ⟨gz, m1 * 3 + 2, none⟩ = some (Value.slice A2 k2 c2) ∧ w'.cell? ⟨gz, 0, none⟩ = some (Value.bool z2) ∧ w'.cell? ⟨gz, 1, none⟩ = some (Value.slice A3 k3 c3) ∧ w'.cell? ⟨gz, 2, none⟩ = some (Value.slice A4 k4 c4)) (go_keep)
                  (first
                    | ((go_at_call 23; refine (hS.out _ ?hbw).mono ?_; (case hbw => ((repeat (first | with_reducible exact Below.refl _ _ | with_reducible refine Below.drew ?_ | with_reducible refine Below.alloc' ?_ _)); done)); rintro e w_1 ⟨b', v9, v10, rfl, hq', hb_1⟩; have hx_1 : Below wr.heap.size wr w_1 := bel_step hb_1 (by ((repeat (first | with_reducible exact Below.refl _ _ | with_reducible refine Below.drew ?_ | with_reducible refine Below.alloc' ?_ _)); done)); have q1_0 : w_1.cell? ⟨gz, m1 * 3, none⟩ = some (Value.bool z1) := (hx_1.cell (p := ⟨gz, m1 * 3, none⟩) hgZ).trans y0; have q1_1 : w_1.cell? ⟨gz, m1 * 3 + 1, none⟩ = some (Value.slice A1 k1 c1) := (hx_1.cell (p := ⟨gz, m1 * 3 + 1, none⟩) hgZ).trans y1; have q1_2 : w_1.cell? ⟨gz, m1 * 3 + 2, none⟩ = some (Value.slice A2 k2 c2) := (hx_1.cell (p := ⟨gz, m1 * 3 + 2, none⟩) hgZ).trans y2'; have q1_3 : w_1.cell? ⟨gz, 0, none⟩ = some (Value.bool z2) := (hx_1.cell (p := ⟨gz, 0, none⟩) hgZ).trans y3; have q1_4 : w_1.cell? ⟨gz, 1, none⟩ = some (Value.slice A3 k3 c3) := (hx_1.cell (p := ⟨gz, 1, none⟩) hgZ).trans y4; have q1_5 : w_1.cell? ⟨gz, 2, none⟩ = some (Value.slice A4 k4 c4) := (hx_1.cell (p := ⟨gz, 2, none⟩) hgZ).trans y5; obtain ⟨B1', k5, c5, B2', k6, c6, rfl, rfl⟩ := hq'.slices; have lw_1 := hx_1.size; (first | (have u_1 := new_d rfl hb_1; have ua0 := u_1.c0; have ua1 := u_1.c1; have ua2 := u_1.c2; have uf0 := u_1.frozen 0; have uf1 := u_1.frozen 1; have uf2 := u_1.frozen 2; have ul := u_1.lt) | skip)))
                    | ((fail)))
                all_goals (go_wp2_with fail; go_meet)
                all_goals first
                  | (exact ⟨_, b', B1', k5, c5, B2', k6, c6, rfl, u_1.set3, ⟨⟨hq'.1.1.box3 u_1 (by simp) (by simp), hq'.1.2⟩, hq'.2.box3 u_1 (by simp) (by simp)⟩, K.Below.set3 hx_1 (Nat.le_refl _)⟩)
                  | (exact ⟨_, b', B1', k5, c5, B2', k6, c6, rfl, Blk.new w_1 [.bool b', .slice B1' k5 c5, .slice B2' k6 c6] 40, hq'.alloc _, K.Below.alloc' hx_1 _⟩)
              case rest =>
                obtain ⟨pp, b', B1', k5, c5, B2', k6, c6, rfl, P, hv, hb⟩ := hcut
                clear y0 y1 y2' y3 y4 y5 hS nz1 nz2 hm3 hj0 hw1 hgZ
                clear Z_8
                have D_9 := Lib.hid (D_8.out.below (fun _ _ _ _ h => h.below hb (Nat.le_refl _)) hb (Nat.le_refl _))
                have E_9 := Lib.hid (E_8.out.below (fun _ _ _ _ h => h.below hb (Nat.le_refl _)) hb (Nat.le_refl _))
                have T_9 := Lib.hid (T_8.out.below (fun _ _ _ _ h => h.below hb (Nat.le_refl _)) hb (Nat.le_refl _))
                have B_9 := Lib.hid (B_8.out.trans (hb.mono B_8.out.size))
                have F_9 := Lib.hid (F_8.out.below hb (Nat.le_refl _))
                clear hb D_8 E_8 T_8 B_8 F_8
                have PL := P.lt
                have xa := P.c0
                have xb := P.c1
                have xc := P.c2
                clear P
                obtain ⟨gB, oB, x2, u3, u4, eB, hgB, y3, y4, y5, hQB⟩ := get2 D_9.out (i := d) (by rw [shs_len]; omega)
                subst eB
                rw [← HY2.out, shs_dumb HYT.out hkl.2 hdk (by rw [HYL.out, HSP.out])] at hQB
                obtain ⟨A3, k3, c3, A4, k4, c4, rfl, rfl⟩ := hQB.slices
                have HQB := Lib.hid hQB
                have HV := Lib.hid hv
                clear hQB hv
                have e2 : 2 ^ i - 1 = m1 := by rw [HSP.out, HM1.out]; rfl
                have hs1 := shs_sum HZT.out hkl.1 hkl.2
                have hs2 := tset_sum HZT.out HPA.out.2.2 HPA.out.2.1 HH.out
                rw [e2] at hs1 hs2
                have hp1 := fun (q : Nat) (hq : q ≤ i) => shs_part HZT.out (by decide) hkl.2 hq
                have hp2 := fun (q : Nat) (hq : q ≤ i) => tset_part HZT.out (by decide) hkl.2 hq (os := prm lo i)
                have HSA := Lib.hid (show Short (zv.getD m1 0 - zv.getD 0 0) by rw [← hs1]; exact hp1 i (Nat.le_refl _))
                have tl : (tset zv (prm lo i) 0 (List.replicate i 0)).length = i := by rw [tset_len, List.length_replicate]
                have hU1 := fun (wd : World) {x : Value} (h : Row3 QV wd x (shs zv i)) => hsum_any x (shs zv i) wd h (by rw [shs_len]; omega) (shsS HFZ.out) (fun q hq => hp1 q (by rw [shs_len] at hq; exact hq))
                have hU2 := fun (wd : World) {x : Value} (h : Row3 QV wd x (tset zv (prm lo i) 0 (List.replicate i 0))) => hsum_any x _ wd h (by rw [tl]; omega) (tset_each HZT.out (by decide)) (fun q hq => hp2 q (by rw [tl] at hq; exact hq))
                rw [shs_len, hs1] at hU1
                rw [tl, hs2] at hU2
                replace hU1 := Lib.hid (fun wd x => hU1 wd (x := x))
                replace hU2 := Lib.hid (fun wd x => hU2 wd (x := x))
                have hd3 : (d : Int) < (i : Int) := by omega
                have hB_0 := Lib.hid ((Below.refl wc.heap.size wc).drew)
                clear e2 hs1 hs2 hp1 hp2 tl
                go_upto_region 27 with fail
                go_region_held3 (fun w' => w'.cell? ⟨gB, oB + d * 3, none⟩ = some (Value.bool x2) ∧ w'.cell? ⟨gB, oB + d * 3 + 1, none⟩ = some (Value.slice A3 k3 c3) ∧ w'.cell? ⟨gB, oB + d * 3 + 2, none⟩ = some (Value.slice A4 k4 c4) ∧ w'.cell? ⟨pp, 0, none⟩ = some (Value.bool b') ∧ w'.cell? ⟨pp, 1, none⟩ = some (Value.slice B1' k5 c5) ∧ w'.cell? ⟨pp, 2, none⟩ = some (Value.slice B2' k6 c6)) (go_keep)
                  (first
                    | ((go_at_call 22; refine (cmp_same _ _ _ _ _ _ _ w_5 HQ6.out (HV.out.below hB_5.out (Nat.le_refl _)) HSA.out).mono ?_; rintro e w_6 ⟨rfl, hb_6⟩; have hB_6 := Lib.hid (hB_5.out.trans (hb_6.mono hB_5.out.size)); have q6_0 : w_6.cell? ⟨gB, oB + d * 3, none⟩ = some (Value.bool x2) := (hB_6.out.cell (p := ⟨gB, oB + d * 3, none⟩) hgB).trans y3; have q6_1 : w_6.cell? ⟨gB, oB + d * 3 + 1, none⟩ = some (Value.slice A3 k3 c3) := (hB_6.out.cell (p := ⟨gB, oB + d * 3 + 1, none⟩) hgB).trans y4; have q6_2 : w_6.cell? ⟨gB, oB + d * 3 + 2, none⟩ = some (Value.slice A4 k4 c4) := (hB_6.out.cell (p := ⟨gB, oB + d * 3 + 2, none⟩) hgB).trans y5; have q6_3 : w_6.cell? ⟨pp, 0, none⟩ = some (Value.bool b') := (hB_6.out.cell (p := ⟨pp, 0, none⟩) PL).trans xa; have q6_4 : w_6.cell? ⟨pp, 1, none⟩ = some (Value.slice B1' k5 c5) := (hB_6.out.cell (p := ⟨pp, 1, none⟩) PL).trans xb; have q6_5 : w_6.cell? ⟨pp, 2, none⟩ = some (Value.slice B2' k6 c6) := (hB_6.out.cell (p := ⟨pp, 2, none⟩) PL).trans xc; clear hb_6))
                    | ((go_at_call 24; refine (hU2.out w_4 _ (T_9.out.below (fun _ _ _ _ h => h.below hB_4.out (Nat.le_refl _)) hB_4.out (Nat.le_refl _))).mono ?_; rintro e w_5 ⟨b6, v9, v10, rfl, hq6, hb_5⟩; have hB_5 := Lib.hid (hB_4.out.trans (hb_5.mono hB_4.out.size)); have q5_0 : w_5.cell? ⟨gB, oB + d * 3, none⟩ = some (Value.bool x2) := (hB_5.out.cell (p := ⟨gB, oB + d * 3, none⟩) hgB).trans y3; have q5_1 : w_5.cell? ⟨gB, oB + d * 3 + 1, none⟩ = some (Value.slice A3 k3 c3) := (hB_5.out.cell (p := ⟨gB, oB + d * 3 + 1, none⟩) hgB).trans y4; have q5_2 : w_5.cell? ⟨gB, oB + d * 3 + 2, none⟩ = some (Value.slice A4 k4 c4) := (hB_5.out.cell (p := ⟨gB, oB + d * 3 + 2, none⟩) hgB).trans y5; have q5_3 : w_5.cell? ⟨pp, 0, none⟩ = some (Value.bool b') := (hB_5.out.cell (p := ⟨pp, 0, none⟩) PL).trans xa; have q5_4 : w_5.cell? ⟨pp, 1, none⟩ = some (Value.slice B1' k5 c5) := (hB_5.out.cell (p := ⟨pp, 1, none⟩) PL).trans xb; have q5_5 : w_5.cell? ⟨pp, 2, none⟩ = some (Value.slice B2' k6 c6) := (hB_5.out.cell (p := ⟨pp, 2, none⟩) PL).trans xc; obtain ⟨N1, n2, n3, N2, n4, n5, rfl, rfl⟩ := hq6.slices; have HQ6 := Lib.hid hq6; clear hq6; clear hb_5))
                    | ((go_at_call 22; refine (cmp_same _ _ _ _ _ _ _ w_3 HQ5.out (HV.out.below hB_3.out (Nat.le_refl _)) HSA.out).mono ?_; rintro e w_4 ⟨rfl, hb_4⟩; have hB_4 := Lib.hid (hB_3.out.trans (hb_4.mono hB_3.out.size)); have q4_0 : w_4.cell? ⟨gB, oB + d * 3, none⟩ = some (Value.bool x2) := (hB_4.out.cell (p := ⟨gB, oB + d * 3, none⟩) hgB).trans y3; have q4_1 : w_4.cell? ⟨gB, oB + d * 3 + 1, none⟩ = some (Value.slice A3 k3 c3) := (hB_4.out.cell (p := ⟨gB, oB + d * 3 + 1, none⟩) hgB).trans y4; have q4_2 : w_4.cell? ⟨gB, oB + d * 3 + 2, none⟩ = some (Value.slice A4 k4 c4) := (hB_4.out.cell (p := ⟨gB, oB + d * 3 + 2, none⟩) hgB).trans y5; have q4_3 : w_4.cell? ⟨pp, 0, none⟩ = some (Value.bool b') := (hB_4.out.cell (p := ⟨pp, 0, none⟩) PL).trans xa; have q4_4 : w_4.cell? ⟨pp, 1, none⟩ = some (Value.slice B1' k5 c5) := (hB_4.out.cell (p := ⟨pp, 1, none⟩) PL).trans xb; have q4_5 : w_4.cell? ⟨pp, 2, none⟩ = some (Value.slice B2' k6 c6) := (hB_4.out.cell (p := ⟨pp, 2, none⟩) PL).trans xc; clear hb_4))
                    | ((go_at_call 24; refine (hU1.out w_2 _ (E_9.out.below (fun _ _ _ _ h => h.below hB_2.out (Nat.le_refl _)) hB_2.out (Nat.le_refl _))).mono ?_; rintro e w_3 ⟨b5, v9, v10, rfl, hq5, hb_3⟩; have hB_3 := Lib.hid (hB_2.out.trans (hb_3.mono hB_2.out.size)); have q3_0 : w_3.cell? ⟨gB, oB + d * 3, none⟩ = some (Value.bool x2) := (hB_3.out.cell (p := ⟨gB, oB + d * 3, none⟩) hgB).trans y3; have q3_1 : w_3.cell? ⟨gB, oB + d * 3 + 1, none⟩ = some (Value.slice A3 k3 c3) := (hB_3.out.cell (p := ⟨gB, oB + d * 3 + 1, none⟩) hgB).trans y4; have q3_2 : w_3.cell? ⟨gB, oB + d * 3 + 2, none⟩ = some (Value.slice A4 k4 c4) := (hB_3.out.cell (p := ⟨gB, oB + d * 3 + 2, none⟩) hgB).trans y5; have q3_3 : w_3.cell? ⟨pp, 0, none⟩ = some (Value.bool b') := (hB_3.out.cell (p := ⟨pp, 0, none⟩) PL).trans xa; have q3_4 : w_3.cell? ⟨pp, 1, none⟩ = some (Value.slice B1' k5 c5) := (hB_3.out.cell (p := ⟨pp, 1, none⟩) PL).trans xb; have q3_5 : w_3.cell? ⟨pp, 2, none⟩ = some (Value.slice B2' k6 c6) := (hB_3.out.cell (p := ⟨pp, 2, none⟩) PL).trans xc; obtain ⟨M1, m2, m3, M2, m4, m5, rfl, rfl⟩ := hq5.slices; have HQ5 := Lib.hid hq5; clear hq5; clear hb_3))
                    | ((go_at_call 13; refine (sign_nought _ _ _ w_1 (HQB.out.below hB_1.out (Nat.le_refl _))).mono ?_; rintro e w_2 ⟨rfl, hb_2⟩; have hB_2 := Lib.hid (hB_1.out.trans (hb_2.mono hB_1.out.size)); have q2_0 : w_2.cell? ⟨gB, oB + d * 3, none⟩ = some (Value.bool x2) := (hB_2.out.cell (p := ⟨gB, oB + d * 3, none⟩) hgB).trans y3; have q2_1 : w_2.cell? ⟨gB, oB + d * 3 + 1, none⟩ = some (Value.slice A3 k3 c3) := (hB_2.out.cell (p := ⟨gB, oB + d * 3 + 1, none⟩) hgB).trans y4; have q2_2 : w_2.cell? ⟨gB, oB + d * 3 + 2, none⟩ = some (Value.slice A4 k4 c4) := (hB_2.out.cell (p := ⟨gB, oB + d * 3 + 2, none⟩) hgB).trans y5; have q2_3 : w_2.cell? ⟨pp, 0, none⟩ = some (Value.bool b') := (hB_2.out.cell (p := ⟨pp, 0, none⟩) PL).trans xa; have q2_4 : w_2.cell? ⟨pp, 1, none⟩ = some (Value.slice B1' k5 c5) := (hB_2.out.cell (p := ⟨pp, 1, none⟩) PL).trans xb; have q2_5 : w_2.cell? ⟨pp, 2, none⟩ = some (Value.slice B2' k6 c6) := (hB_2.out.cell (p := ⟨pp, 2, none⟩) PL).trans xc; clear hb_2))
                    | ((go_at_call 11; refine (known_any _ (F_9.out.below hB_0.out (Nat.le_refl _))).mono ?_; rintro e w_1 ⟨rfl, hb_1⟩; have hB_1 := Lib.hid (hB_0.out.trans (hb_1.mono hB_0.out.size)); have q1_0 : w_1.cell? ⟨gB, oB + d * 3, none⟩ = some (Value.bool x2) := (hB_1.out.cell (p := ⟨gB, oB + d * 3, none⟩) hgB).trans y3; have q1_1 : w_1.cell? ⟨gB, oB + d * 3 + 1, none⟩ = some (Value.slice A3 k3 c3) := (hB_1.out.cell (p := ⟨gB, oB + d * 3 + 1, none⟩) hgB).trans y4; have q1_2 : w_1.cell? ⟨gB, oB + d * 3 + 2, none⟩ = some (Value.slice A4 k4 c4) := (hB_1.out.cell (p := ⟨gB, oB + d * 3 + 2, none⟩) hgB).trans y5; have q1_3 : w_1.cell? ⟨pp, 0, none⟩ = some (Value.bool b') := (hB_1.out.cell (p := ⟨pp, 0, none⟩) PL).trans xa; have q1_4 : w_1.cell? ⟨pp, 1, none⟩ = some (Value.slice B1' k5 c5) := (hB_1.out.cell (p := ⟨pp, 1, none⟩) PL).trans xb; have q1_5 : w_1.cell? ⟨pp, 2, none⟩ = some (Value.slice B2' k6 c6) := (hB_1.out.cell (p := ⟨pp, 2, none⟩) PL).trans xc; clear hb_1))
                    | ((fail)))
                all_goals go_wp2_with fail
                all_goals go_ret
                all_goals exact ⟨rfl, B_9.out.trans (hB_6.out.mono B_9.out.size)⟩

end Go.Proofs.YtjfkniknmkcdcaaGreatDoor
