/- The walk of the law ShareMixed. -/
import Derived.Test.YtjfkniknmkcdcaaDoorKn
import Derived.Test.YtjfkniknmkcdcaaDoorSe
import Derived.Test.YtjfkniknmkcdcaaDoorHc
namespace Go.Proofs.YtjfkniknmkcdcaaDoor
open Go.RowKit K Nu

theorem mk_short {n : Int} {d : Nat} (hd : d ≠ 0) (h0 : -2147483648 < n) (h1 : n < 2147483648) (h2 : d < 2147483648) : Short (mkRat n d) := by
  have e1 := mk_num n d hd
  have e2 := mk_den n d hd
  have hg : 0 < Nat.gcd n.natAbs d := Nat.gcd_pos_of_pos_right _ (by omega)
  have h3 : d / Nat.gcd n.natAbs d ≤ d := Nat.div_le_self _ _
  have h4 : (n / (Nat.gcd n.natAbs d : Int)).natAbs ≤ n.natAbs := by
    have hdv : ((Nat.gcd n.natAbs d : Nat) : Int) ∣ n := Int.ofNat_dvd_left.2 (Nat.gcd_dvd_left _ _)
    rw [Int.natAbs_ediv_of_dvd hdv]; exact Nat.div_le_self _ _
  rw [← e1] at h4
  exact ⟨by omega, by omega, by omega⟩
theorem rr_short (n : Int) : Short (rr n) := mk_short (d6_le _).1 (by omega) (by omega) (by have := (d6_le (n.tdiv 41 % 6)).2; omega)
theorem rowQ_short {l : List Int} {n : Nat} : ∀ q, q ∈ rowQ l n → Short q := by
  intro q hq
  simp only [rowQ, List.mem_map] at hq
  obtain ⟨i, -, rfl⟩ := hq
  split
  · exact rr_short _
  · exact shortB_iff (by decide)
theorem rowQ_len {l : List Int} {n : Nat} : (rowQ l n).length = n := by simp [rowQ]
theorem own_bools {w : World} {base : Nat} {e : TypeId} {v : Value} {l : List Bool} (h : w.ownsRow base e 1 v l.length (l.map Value.bool)) : IsBools w v l := by
  rcases h.2 with ⟨rfl, h0⟩ | ⟨g, cap, cur, rfl, -, hg, hc, -, -, -⟩
  · rw [List.eq_nil_of_length_eq_zero h0]; exact ⟨none, 0, rfl, Nat.le_refl _, fun h => absurd rfl h⟩
  · refine ⟨_, _, rfl, hc, fun _ => ⟨g, 0, rfl, lt_of_block hg, fun i hi => ?_⟩⟩
    have := h.cells (g := g) rfl i (.bool (l.getD i false)) (by rw [List.getElem?_map, List.getElem?_eq_getElem hi, List.getD_eq_getElem?_getD, List.getElem?_eq_getElem hi]; rfl)
    rw [Nat.zero_add]
    rwa [show (⟨g, 0, none⟩ : Addr).add i = ⟨g, i, none⟩ by unfold Addr.add; split <;> simp_all] at this
theorem Tryd.infoBool : (Tryd.prog.info? 4).map (fun i => (i.zero, i.size, i.bytes)) = some (some (.bool false), 1, 1) := by kernel_rfl
theorem zb_no : ∀ y, y ∈ (Value.bool false).cells.toList → ∀ k q, y ≠ .int k q := by
  intro y hy; simp [Value.cells] at hy; subst hy; simp
/-- the bits of a number, as many as asked -/
def bitsB (p k : Nat) : List Bool := (List.range k).map fun i => p.testBit i
theorem bitsB_len (p k : Nat) : (bitsB p k).length = k := by simp [bitsB]
theorem bitsB_succ (p k : Nat) : bitsB p (k + 1) = bitsB p k ++ [p.testBit k] := by simp [bitsB, List.range_succ]

set_option maxRecDepth 100000 in
set_option maxHeartbeats 8000000 in
theorem shareMixed_walk (v1 v2 : Value) (l1 l2 : List Int) (n set odd : Int) (w : World) (h1 : IsInts .i64 w v1 l1) (h2 : IsInts .i64 w v2 l2) (hl1 : ∀ x, x ∈ l1 → I64 x) (hl2 : ∀ x, x ∈ l2 → I64 x) (hF : Fac w) :
    Calls Tryd.prog 3 #[v1, v2, .int .i64 n, .int .i64 set, .int .i64 odd] w fun e w' => e = .returned (.bool true) ∧ Below w.heap.size w w' := by
  obtain ⟨m, hm⟩ : ∃ m : Nat, n % 4 = m := ⟨(n % 4).toNat, by omega⟩
  obtain ⟨p, hp⟩ : ∃ p : Nat, set % 16 = p := ⟨(set % 16).toNat, by omega⟩
  have hm4 : m < 4 := by omega
  have hp16 : p < 16 := by omega
  have hP1 := fun wd => pick_any n 4 wd (by decide) (by decide)
  have hP2 := fun wd => pick_any set 16 wd (by decide) (by decide)
  have hP3 := fun wd => pick_any odd 6 wd (by decide) (by decide)
  rw [hm] at hP1
  rw [hp] at hP2
  replace hP1 := Lib.hid hP1
  replace hP2 := Lib.hid hP2
  have hR1 := Lib.hid (row_any v1 l1 m w h1 hl1 (by omega))
  have hR2 := Lib.hid (fun (wd : World) (hb : Below w.heap.size w wd) => row_any v2 l2 m wd (h2.below hb (Nat.le_refl _)) hl2 (by omega))
  have HF := Lib.hid hF
  obtain ⟨i0, hi, hz0, hz1, hz2⟩ := info_parts Tryd.infoBool
  clear hm hp h1 h2 hl1 hl2 hF
  go_enter Tryd.func3, Tryd.ntmps3
  go_wp2_with fail
  refine (hP1.out _).mono ?_
  rintro e w1 ⟨rfl, rfl⟩
  go_wp2_with fail
  refine hR1.out.mono ?_
  rintro e w1 ⟨x, rfl, hx, hb1⟩
  have B1 := Lib.hid hb1
  have X1 := Lib.hid hx
  clear hx hb1
  go_wp2_with fail
  refine (hR2.out _ B1.out).mono ?_
  rintro e w2 ⟨y, rfl, hy, hb2⟩
  have B2 := Lib.hid (B1.out.trans (hb2.mono B1.out.size))
  have X2 := Lib.hid (X1.out.below (fun _ _ _ _ h => h.below hb2 (Nat.le_refl _)) hb2 (Nat.le_refl _))
  have Y2 := Lib.hid hy
  clear hy hb2 X1 B1 hR1 hR2
  go_wp2_with fail
  go_loopw [13, 14, 15] (fun o s i wr => ∃ (k t : Nat), k ≤ m ∧ i = .int .i64 k ∧ s = .int .i64 t ∧ t < 16 ∧ Hid (∀ i, t.testBit i = (decide (i < k) && p.testBit i)) ∧ wr.ownsRow w2.heap.size 4 1 o k ((bitsB p k).map Value.bool) ∧ NoInt wr o ∧ Below w2.heap.size w2 wr) (fun _ _ i _ => m - (intOf i).toNat)
  case atStart => exact ⟨0, 0, by omega, rfl, rfl, by omega, Lib.hid (fun i => by simp), World.ownsRow_nil _ _ _ _, NoInt.nil _, Below.refl _ _⟩
  case round =>
    obtain ⟨k, t, hk, rfl, rfl, ht16, htb, hown, hno, hbel⟩ := hrel
    by_cases hlt : k < m
    · have hbit := bit_at (s := p) (k := k) (by omega)
      have hk16 : k < 4 := by omega
      have hpz : (2 : Int) ^ k = ((2 ^ k : Nat) : Int) := by rw [Int.natCast_pow]; rfl
      have hk2 : (2 : Nat) ^ k < 2 ^ 4 := Nat.pow_lt_pow_right (by decide) hk16
      have ht2 : t ||| 2 ^ k < 16 := Nat.or_lt_two_pow (n := 4) ht16 hk2
      have hor : bits .or .i64 (t : Int) (2 ^ k) = ((t ||| 2 ^ k : Nat) : Int) := by
        rw [hpz]
        exact Tryd.or_i64 (by omega) (Nat.lt_trans hk2 (by decide))
      have hw : IntKind.i64.wrap ((2 : Int) ^ k) = 2 ^ k := by
        rw [hpz, IntKind.wrap_i64]
        rw [show (2 : Nat) ^ 4 = 16 from rfl] at hk2
        generalize (2 : Nat) ^ k = X at *
        omega
      obtain ⟨t', ht'⟩ : ∃ t', t ||| 2 ^ k = t' := ⟨_, rfl⟩
      rw [ht'] at hor ht2
      have htb' : ∀ i, t'.testBit i = (t.testBit i || decide (k = i)) := fun i => by rw [← ht', Nat.testBit_or, Nat.testBit_two_pow]
      have HTB := Lib.hid htb'
      have HBS := Lib.hid (bitsB_succ p k)
      clear hpz hk2 ht' htb'
      by_cases hb : p.testBit k = true
      · rw [if_pos hb] at hbit
        have HB := Lib.hid hb
        have htn := Lib.hid (show ∀ i, t'.testBit i = (decide (i < k + 1) && p.testBit i) from fun i => by
          rw [HTB.out, htb.out]
          by_cases e : k = i
          · subst e; simp [HB.out]
          · simp only [e, decide_false, Bool.or_false]
            congr 1
            simp only [decide_eq_decide]; omega)
        clear hb
        go_wp2_with fail
        refine (hP2.out _).mono ?_
        rintro e w3 ⟨rfl, rfl⟩
        go_wp2_with ((at_builtin; refine wpList_append_noint rfl _ _ 26 rfl w2.heap.size 4 i0 (.bool false) 1 1 Tryd.underlying26 hi hz0 hz1 hz2 rfl (by decide) _ _ _ rfl (hown.alloc _) (noint_alloc hown hno _) zb_no ⟨wr.heap.size, 0, none⟩ 1 1 [.bool true] rfl rfl ?c1 ?c2 ?c3 (by decide) ?c4 ?c5 ?c6 ?_))
        case c1 => intro t u hu; rcases t with _ | t <;> simp at hu <;> subst hu <;> simp [Addr.add]
        case c2 => intro u hu; simp at hu; subst hu; rfl
        case c3 => intro u hu; simp at hu; subst hu; simp
        case c4 => unfold maxLen; omega
        case c5 => omega
        case c6 => simp; have := hbel.size; omega
        intro v' w3 hown' hgrow hno'
        have hbel3 : Below w2.heap.size w2 w3 := (hbel.alloc hbel.size _).grown hgrow (by simp; have := hbel.size; omega) (fun q hq => by have := (hown.lt q hq).1; omega)
        have hown2 : w3.ownsRow w2.heap.size 4 1 v' (k + 1) ((bitsB p (k + 1)).map Value.bool) := by rw [HBS.out, HB.out, List.map_append]; exact hown'
        obtain ⟨g, cap, rfl, hgb, hgc, hgm⟩ : ∃ g cap, v' = .slice (some ⟨g, 0, none⟩) (k + 1) cap ∧ w2.heap.size ≤ g ∧ k + 1 ≤ cap ∧ cap ≤ maxLen := by
          rcases hown2.2 with ⟨-, h0⟩ | ⟨g, cap, cur, rfl, hb, -, hc, hm, -⟩
          · omega
          · exact ⟨g, cap, rfl, hb, hc, hm⟩
        have xb : w3.cell? ⟨g, k, none⟩ = some (.bool true) := by
          have := hown2.cells (g := g) rfl k (.bool true) (by rw [HBS.out, List.map_append, List.getElem?_append_right (by simp [bitsB_len])]; simp [bitsB_len, HB.out])
          rwa [show (⟨g, 0, none⟩ : Addr).add k = ⟨g, k, none⟩ by unfold Addr.add; split <;> simp_all] at this
        clear hown hown' hgrow hno hbel
        go_wp2_with fail
        go_roundw
        case rel => exact ⟨k + 1, t', by omega, by go_num, rfl, ht2, htn, hown2, hno', hbel3⟩
        case measure => simp [intOf]; omega
      · rw [if_neg hb] at hbit
        have hb0 : p.testBit k = false := by simpa using hb
        have HB := Lib.hid hb0
        have htn := Lib.hid (show ∀ i, t.testBit i = (decide (i < k + 1) && p.testBit i) from fun i => by
          rw [htb.out]
          by_cases e : k = i
          · subst e; simp [HB.out]
          · congr 1
            simp only [decide_eq_decide]; omega)
        clear hb hb0
        go_wp2_with fail
        refine (hP2.out _).mono ?_
        rintro e w3 ⟨rfl, rfl⟩
        go_wp2_with ((at_builtin; refine wpList_append_noint rfl _ _ 26 rfl w2.heap.size 4 i0 (.bool false) 1 1 Tryd.underlying26 hi hz0 hz1 hz2 rfl (by decide) _ _ _ rfl (hown.alloc _) (noint_alloc hown hno _) zb_no ⟨wr.heap.size, 0, none⟩ 1 1 [.bool false] rfl rfl ?c1 ?c2 ?c3 (by decide) ?c4 ?c5 ?c6 ?_))
        case c1 => intro t u hu; rcases t with _ | t <;> simp at hu <;> subst hu <;> simp [Addr.add]
        case c2 => intro u hu; simp at hu; subst hu; rfl
        case c3 => intro u hu; simp at hu; subst hu; simp
        case c4 => unfold maxLen; omega
        case c5 => omega
        case c6 => simp; have := hbel.size; omega
        intro v' w3 hown' hgrow hno'
        have hbel3 : Below w2.heap.size w2 w3 := (hbel.alloc hbel.size _).grown hgrow (by simp; have := hbel.size; omega) (fun q hq => by have := (hown.lt q hq).1; omega)
        have hown2 : w3.ownsRow w2.heap.size 4 1 v' (k + 1) ((bitsB p (k + 1)).map Value.bool) := by rw [HBS.out, HB.out, List.map_append]; exact hown'
        obtain ⟨g, cap, rfl, hgb, hgc, hgm⟩ : ∃ g cap, v' = .slice (some ⟨g, 0, none⟩) (k + 1) cap ∧ w2.heap.size ≤ g ∧ k + 1 ≤ cap ∧ cap ≤ maxLen := by
          rcases hown2.2 with ⟨-, h0⟩ | ⟨g, cap, cur, rfl, hb, -, hc, hm, -⟩
          · omega
          · exact ⟨g, cap, rfl, hb, hc, hm⟩
        have xb : w3.cell? ⟨g, k, none⟩ = some (.bool false) := by
          have := hown2.cells (g := g) rfl k (.bool false) (by rw [HBS.out, List.map_append, List.getElem?_append_right (by simp [bitsB_len])]; simp [bitsB_len, HB.out])
          rwa [show (⟨g, 0, none⟩ : Addr).add k = ⟨g, k, none⟩ by unfold Addr.add; split <;> simp_all] at this
        clear hown hown' hgrow hno hbel
        go_wp2_with fail
        go_roundw
        case rel => exact ⟨k + 1, t, by omega, by go_num, rfl, ht16, htn, hown2, hno', hbel3⟩
        case measure => simp [intOf]; omega
    · obtain rfl : k = m := by omega
      clear hlt hk
      go_wp2_with fail
      refine (hP3 _).mono ?_
      rintro e w3 ⟨rfl, rfl⟩
      by_cases hodd : odd % 6 = 5
      · have hodd2 : (odd % 6 == 5) = true := by simpa using hodd
        clear hodd
        go_wp2_with ((at_builtin; refine wpList_append_noint rfl _ _ 26 rfl w2.heap.size 4 i0 (.bool false) 1 1 Tryd.underlying26 hi hz0 hz1 hz2 rfl (by decide) _ _ _ rfl (hown.alloc _) (noint_alloc hown hno _) zb_no ⟨wr.heap.size, 0, none⟩ 1 1 [.bool true] rfl rfl ?c1 ?c2 ?c3 (by decide) ?c4 ?c5 ?c6 ?_))
        case c1 => intro t u hu; rcases t with _ | t <;> simp at hu <;> subst hu <;> simp [Addr.add]
        case c2 => intro u hu; simp at hu; subst hu; rfl
        case c3 => intro u hu; simp at hu; subst hu; simp
        case c4 => unfold maxLen; omega
        case c5 => omega
        case c6 => simp; have := hbel.size; omega
        intro v' w4 hown' hgrow hno'
        have hbel3 : Below w2.heap.size w2 w4 := (hbel.alloc hbel.size _).grown hgrow (by simp; have := hbel.size; omega) (fun q hq => by have := (hown.lt q hq).1; omega)
        obtain ⟨Ah, ch, rfl⟩ : ∃ Ah ch, v' = .slice Ah (k + 1) ch := by
          rcases hown'.2 with ⟨-, h0⟩ | ⟨g, cap, cur, rfl, -⟩
          · omega
          · exact ⟨_, _, rfl⟩
        have BW := Lib.hid (B2.out.trans (hbel3.mono B2.out.size))
        have hI1 := Lib.hid (inRow_any x _ _ (X2.out.below (fun _ _ _ _ h => h.below hbel3 (Nat.le_refl _)) hbel3 (Nat.le_refl _)) rowQ_short (by rw [rowQ_len]; omega))
        have hI2 := Lib.hid (fun (wd : World) (hb : Below w4.heap.size w4 wd) => inRow_any y _ wd (Y2.out.below (fun _ _ _ _ h => h.below (hbel3.trans (hb.mono hbel3.size)) (Nat.le_refl _)) (hbel3.trans (hb.mono hbel3.size)) (Nat.le_refl _)) rowQ_short (by rw [rowQ_len]; omega))
        clear hown hown' hgrow hno hno' hbel hbel3 X2 Y2 hP3
        go_wp2_with fail
        refine hI1.out.mono ?_
        rintro e w5 ⟨r1, rfl, hr1, hb5⟩
        obtain ⟨R1, e1, rfl, -, -, -⟩ := hr1.at
        rw [rowQ_len] at hr1 ⊢
        go_wp2_with fail
        refine (hI2.out _ hb5).mono ?_
        rintro e w6 ⟨r2, rfl, hr2, hb6⟩
        obtain ⟨R2, e2, rfl, -, -, -⟩ := hr2.at
        rw [rowQ_len] at hr2 ⊢
        have hM := Lib.hid (shMixed_bad R1 R2 Ah k k (k + 1) e1 e2 ch w6 (by omega))
        have B6 := Lib.hid ((BW.out.trans (hb5.mono BW.out.size)).trans (hb6.mono (BW.out.trans (hb5.mono BW.out.size)).size))
        have hK := Lib.hid (known_any w6 (HF.out.below B6.out (Nat.le_refl _)))
        clear hI1 hI2 hr1 hr2 hb5 hb6
        have t1 : ((k : Int) + 1 != (k : Int)) = true := bne_iff_ne.2 (by omega)
        go_wp2_with fail
        refine hM.out.mono ?_
        rintro e w7 ⟨rfl, rfl⟩
        go_wp2_with fail
        all_goals
          refine hK.out.mono ?_
          rintro e w8 ⟨rfl, hb8⟩
          go_wp2_with fail
          go_ret
          exact ⟨rfl, B6.out.trans (hb8.mono B6.out.size)⟩
      · have hodd2 : (odd % 6 == 5) = false := by simpa using hodd
        have hbl := own_bools (l := bitsB p k) (by rw [bitsB_len]; exact hown)
        have hBL := Lib.hid hbl
        obtain ⟨Ah, ch, rfl, -, -⟩ := hbl
        rw [bitsB_len] at hown hno ⊢
        have BW := Lib.hid (B2.out.trans (hbel.mono B2.out.size))
        have hI1 := Lib.hid (inRow_any x _ _ (X2.out.below (fun _ _ _ _ h => h.below hbel (Nat.le_refl _)) hbel (Nat.le_refl _)) rowQ_short (by rw [rowQ_len]; omega))
        have hI2 := Lib.hid (fun (wd : World) (hb : Below wr.heap.size wr wd) => inRow_any y _ wd (Y2.out.below (fun _ _ _ _ h => h.below (hbel.trans (hb.mono hbel.size)) (Nat.le_refl _)) (hbel.trans (hb.mono hbel.size)) (Nat.le_refl _)) rowQ_short (by rw [rowQ_len]; omega))
        have X3 := Lib.hid (X2.out.below (fun _ _ _ _ h => h.below hbel (Nat.le_refl _)) hbel (Nat.le_refl _))
        have Y3 := Lib.hid (Y2.out.below (fun _ _ _ _ h => h.below hbel (Nat.le_refl _)) hbel (Nat.le_refl _))
        clear hown hno hbel X2 Y2 hP3 hodd
        go_wp2_with fail
        refine hI1.out.mono ?_
        rintro e w5 ⟨r1, rfl, hr1, hb5⟩
        have HR1 := Lib.hid hr1
        obtain ⟨R1, e1, rfl, -, -, -⟩ := hr1.at
        rw [rowQ_len] at hr1 ⊢
        go_wp2_with fail
        refine (hI2.out _ hb5).mono ?_
        rintro e w6 ⟨r2, rfl, hr2, hb6⟩
        have HR2 := Lib.hid hr2
        obtain ⟨R2, e2, rfl, -, -, -⟩ := hr2.at
        rw [rowQ_len] at hr2 ⊢
        have B56 := hb5.trans (hb6.mono hb5.size)
        have B6 := Lib.hid (BW.out.trans (B56.mono BW.out.size))
        by_cases hk0 : k < 1
        · obtain rfl : k = 0 := by omega
          have hM := Lib.hid (shMixed_bad R1 R2 Ah 0 0 0 e1 e2 ch w6 (by omega))
          have hK := Lib.hid (known_any w6 (HF.out.below B6.out (Nat.le_refl _)))
          clear hI1 hI2 hr1 hr2 hb5 hb6 HR1 HR2 B56
          go_wp2_with fail
          refine hM.out.mono ?_
          rintro e w7 ⟨rfl, rfl⟩
          go_wp2_with fail
          refine hK.out.mono ?_
          rintro e w8 ⟨rfl, hb8⟩
          go_wp2_with fail
          go_ret
          exact ⟨rfl, B6.out.trans (hb8.mono B6.out.size)⟩
        · have hM := Lib.hid (shMixed_any _ _ _ (rowQ l1 k) (rowQ l2 k) (bitsB p k) w6 (HR1.out.below (fun _ _ _ _ h => h.below hb6 (Nat.le_refl _)) hb6 (Nat.le_refl _)) HR2.out (hBL.out.below B56 (Nat.le_refl _)) (by rw [rowQ_len]; omega) (by rw [rowQ_len]; omega) (by rw [rowQ_len, rowQ_len]) (by rw [bitsB_len, rowQ_len]))
          rw [rowQ_len, rowQ_len, bitsB_len] at hM
          have X6 := Lib.hid (X3.out.below (fun _ _ _ _ h => h.below B56 (Nat.le_refl _)) B56 (Nat.le_refl _))
          have Y6 := Lib.hid (Y3.out.below (fun _ _ _ _ h => h.below B56 (Nat.le_refl _)) B56 (Nat.le_refl _))
          have t1 : ((k : Int) < 1) = False := by simp; omega
          clear hI1 hI2 hr1 hr2 hb5 hb6 HR1 HR2 B56 X3 Y3 hBL
          go_wp2_with fail
          refine hM.out.mono ?_
          rintro e w7 ⟨r, rfl, hr, hb7⟩
          obtain ⟨R3, e3, hre, -, -, -⟩ := hr.at
          have HR := Lib.hid hr
          subst hre
          have hml : (mixR (rowQ l1 k) (rowQ l2 k) (bitsB p k)).length = k := by simp [mixR, rowQ_len]
          rw [hml] at HR ⊢
          have B7 := Lib.hid (B6.out.trans (hb7.mono B6.out.size))
          have X7 := Lib.hid (X6.out.below (fun _ _ _ _ h => h.below hb7 (Nat.le_refl _)) hb7 (Nat.le_refl _))
          have Y7 := Lib.hid (Y6.out.below (fun _ _ _ _ h => h.below hb7 (Nat.le_refl _)) hb7 (Nat.le_refl _))
          have hK := Lib.hid (known_any w7 (HF.out.below B7.out (Nat.le_refl _)))
          have HML := Lib.hid hml
          clear hM hr hb7 X6 Y6 hml
          go_wp2_with fail
          refine hK.out.mono ?_
          rintro e w8 ⟨rfl, hb8⟩
          have hX := Lib.hid (rmixed_any x y _ _ t w8 (X7.out.below (fun _ _ _ _ h => h.below hb8 (Nat.le_refl _)) hb8 (Nat.le_refl _)) (Y7.out.below (fun _ _ _ _ h => h.below hb8 (Nat.le_refl _)) hb8 (Nat.le_refl _)) (by rw [rowQ_len, rowQ_len]) (by rw [rowQ_len]; omega) (by omega))
          have B8 := Lib.hid (B7.out.trans (hb8.mono B7.out.size))
          have HR8 := Lib.hid (HR.out.below (fun _ _ _ _ h => h.below hb8 (Nat.le_refl _)) hb8 (Nat.le_refl _))
          clear hK hb8 HR X7 Y7
          go_wp2_with fail
          refine hX.out.mono ?_
          rintro e w9 ⟨r9, rfl, hr9, hb9⟩
          have hmix : mixR (rowQ l1 k) (rowQ l2 k) (bitsB p k) = mixS (rowQ l1 k) (rowQ l2 k) t := by
            unfold mixR mixS
            rw [rowQ_len, rowQ_len]
            refine List.map_congr_left fun i hi => ?_
            rw [List.mem_range] at hi
            rw [htb.out i, show (bitsB p k).getD i false = p.testBit i by simp [bitsB, List.getD_eq_getElem?_getD, hi]]
            simp [hi]
          have hsh : ∀ q, q ∈ mixR (rowQ l1 k) (rowQ l2 k) (bitsB p k) → Short q := by
            intro q hq
            simp only [mixR, List.mem_map, List.mem_range] at hq
            obtain ⟨i, hi, rfl⟩ := hq
            rw [rowQ_len] at hi
            split
            · exact rowQ_short _ (getD_mem' (by rw [rowQ_len]; exact hi))
            · exact rowQ_short _ (getD_mem' (by rw [rowQ_len]; exact hi))
          have hZ := sameRow_any _ r9 _ _ w9 (HR8.out.below (fun _ _ _ _ h => h.below hb9 (Nat.le_refl _)) hb9 (Nat.le_refl _)) hr9 hsh (by rw [← hmix]; exact hsh) (by rw [hmix])
          rw [decide_eq_true hmix] at hZ
          have HZ := Lib.hid hZ
          have B9 := Lib.hid (B8.out.trans (hb9.mono B8.out.size))
          clear hX hr9 hb9 hmix hsh hZ HR8
          go_wp2_with fail
          refine HZ.out.mono ?_
          rintro e w10 ⟨rfl, hb10⟩
          go_wp2_with fail
          go_ret
          exact ⟨rfl, B9.out.trans (hb10.mono B9.out.size)⟩
end Go.Proofs.YtjfkniknmkcdcaaDoor
