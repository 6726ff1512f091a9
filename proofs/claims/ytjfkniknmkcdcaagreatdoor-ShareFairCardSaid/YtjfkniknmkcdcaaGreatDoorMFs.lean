/- The walks of hand's Row and of the law's table (rows that are owned), of hand's Sum, of the law's permuted. (printed by wip/gen/fs.py) -/
import Derived.Test.YtjfkniknmkcdcaaGreatDoorMFp
namespace Go.Proofs.YtjfkniknmkcdcaaGreatDoor
open Go.RowKit K Nu


set_option maxRecDepth 100000 in
set_option maxHeartbeats 8000000 in
theorem row_own (v : Value) (l : List Int) (n : Nat) (w : World) (h : IsInts .i64 w v l) (hl : ∀ x, x ∈ l → I64 x) (hn : n ≤ 4096) :
    Calls Tryz.prog 25 #[v, .int .i64 (n : Int)] w fun e w' => ∃ r ts, e = .returned r ∧ w'.ownsRow w.heap.size 55 3 r n (flat ts) ∧ NoInt w' r ∧ ts.length = n ∧ (∀ (i : Nat) (t : T3) (q : Rat), ts[i]? = some t → (rowQ l n)[i]? = some q → RQ w' t.1 t.2.1 t.2.2 q) ∧ Below w.heap.size w w' := by
  obtain ⟨A, c, rfl, hc, hm, hr⟩ := h
  obtain ⟨L, hL⟩ : ∃ L, l.length = L := ⟨_, rfl⟩
  obtain ⟨qs, hqs⟩ : ∃ qs, rowQ l n = qs := ⟨_, rfl⟩
  have hql : qs.length = n := by rw [← hqs]; simp [rowQ]
  have hqd : ∀ k, k < n → qs.getD k 0 = if k < L then rr (l.getD k 0) else ((0 : Int) : Rat) := fun k hk => by
    rw [← hqs, ← hL, List.getD_eq_getElem?_getD]; simp [rowQ, hk]
  rw [hqs]
  rw [hL] at hc hm hr ⊢
  have HL := Lib.hid hql
  have HLL := Lib.hid hL
  have HQD := Lib.hid hqd
  clear hL hqs hql hqd hm
  obtain ⟨i0, hi, hz0, hz1, hz2⟩ := info_parts Tryz.infoRQ
  go_enter Tryz.func25, Tryz.ntmps25
  go_wp2
  go_loopw [5, 6] (fun o i wr => ∃ (k : Nat) (ts : List T3), k ≤ n ∧ i = .int .i64 k ∧ Hid (ts.length = k) ∧ wr.ownsRow w.heap.size 55 3 o k (flat ts) ∧ NoInt wr o ∧ Hid (∀ (i : Nat) (t : T3) (q : Rat), ts[i]? = some t → qs[i]? = some q → RQ wr t.1 t.2.1 t.2.2 q) ∧ Below w.heap.size w wr) (fun _ i _ => n - (intOf i).toNat)
  case atStart => exact ⟨0, [], by omega, rfl, Lib.hid rfl, World.ownsRow_nil _ _ _ _, NoInt.nil _, Lib.hid (by simp), Below.refl _ _⟩
  case round =>
    obtain ⟨k, ts, hk, rfl, hts, hown, hno, hq, hbel⟩ := hrel
    by_cases hlt : k < n
    · have hqk := HQD.out k hlt
      by_cases hkL : k < L
      · rw [if_pos hkL] at hqk
        obtain ⟨b, off, rfl, hb, hcell⟩ := hr (by omega)
        have y0 := (hbel.cell (p := ⟨b, off + k, none⟩) hb).trans (hcell k hkL)
        have hI := fun wd => r_any (l.getD k 0) wd (hl _ (getD_mem (by rw [HLL.out]; exact hkL)))
        rw [← hqk] at hI
        replace hI := Lib.hid hI
        clear hqk hcell hr
        generalize l.getD k 0 = y at *
        go_wp2_with fail
        refine (hI.out _).mono ?_
        rintro e w1 ⟨b', vn, vr, rfl, hv, hb1⟩
        obtain ⟨A1, k1, c1, A2, k2, c2, rfl, rfl⟩ := hv.slices
        have hbel1 := hbel.trans (hb1.mono hbel.size)
        have hown1 := own_below hown hb1
        have hno1 := noint_below hown hno hb1
        go_wp2_with ((at_builtin; refine wpList_append_noint rfl _ _ 23 rfl w.heap.size 55 i0 (.agg #[.bool false, .slice none 0 0, .slice none 0 0]) 3 56 Tryz.underlying23 hi hz0 hz1 hz2 rfl (by decide) _ _ _ rfl (hown1.alloc _) (noint_alloc hown1 hno1 _) z3_no ⟨w1.heap.size, 0, none⟩ 1 1 [.bool b', .slice A1 k1 c1, .slice A2 k2 c2] rfl rfl ?c1 ?c2 ?c3 (by decide) ?c4 ?c5 ?c6 ?_))
        case c1 => intro t u hu; rcases t with _ | _ | _ | t <;> simp at hu <;> subst hu <;> simp [Addr.add]
        case c2 => intro u hu; simp at hu; rcases hu with rfl | rfl | rfl <;> rfl
        case c3 => intro u hu; simp at hu; rcases hu with rfl | rfl | rfl <;> simp
        case c4 => unfold maxLen; omega
        case c5 => omega
        case c6 => simp; have := hb1.size; have := hbel.size; omega
        intro v' w2 hown' hgrow hno'
        have hbel2 : Below w.heap.size w w2 := (hbel1.alloc hbel1.size _).grown hgrow (by simp; have := hbel1.size; omega) (fun q hq => by have := (hown1.lt q hq).1; omega)
        have hq2 : ∀ (i : Nat) (t : T3) (q : Rat), (ts ++ [(b', .slice A1 k1 c1, .slice A2 k2 c2)])[i]? = some t → qs[i]? = some q → RQ w2 t.1 t.2.1 t.2.2 q :=
          facts_snoc (fun i t q ht hqi => (((hq.out i t q ht hqi).below hb1 (Nat.le_refl _)).alloc _).grown (hown1.alloc _) (noint_alloc hown1 hno1 _) hgrow) (fun q hqq => by
            rw [hts.out, List.getElem?_eq_getElem (by rw [HL.out]; exact hlt)] at hqq
            simp only [Option.some.injEq] at hqq
            rw [List.getD_eq_getElem?_getD, List.getElem?_eq_getElem (by rw [HL.out]; exact hlt), Option.getD_some, hqq] at hv
            exact (hv.alloc _).grown (hown1.alloc _) (noint_alloc hown1 hno1 _) hgrow)
        have hown2 : w2.ownsRow w.heap.size 55 3 v' (k + 1) (flat (ts ++ [(b', .slice A1 k1 c1, .slice A2 k2 c2)])) := by rw [flat_append]; exact hown'
        have HQ2 := Lib.hid hq2
        clear hq2 hown' hgrow hown1 hno1 hv hb1 hbel1 hbel hown hno hq
        go_wp2
        go_roundw
        case rel => exact ⟨k + 1, _, by omega, by go_num, Lib.hid (by simp [hts.out]), hown2, hno', HQ2, hbel2⟩
        case measure => simp [intOf]; omega
      · rw [if_neg hkL] at hqk
        have hI := fun wd => rof_any 0 wd (by omega) (by omega)
        rw [← hqk] at hI
        replace hI := Lib.hid hI
        clear hqk hr
        go_wp2_with fail
        refine (hI.out _).mono ?_
        rintro e w1 ⟨b', vn, vr, rfl, hv, hb1⟩
        obtain ⟨A1, k1, c1, A2, k2, c2, rfl, rfl⟩ := hv.slices
        have hbel1 := hbel.trans (hb1.mono hbel.size)
        have hown1 := own_below hown hb1
        have hno1 := noint_below hown hno hb1
        go_wp2_with ((at_builtin; refine wpList_append_noint rfl _ _ 23 rfl w.heap.size 55 i0 (.agg #[.bool false, .slice none 0 0, .slice none 0 0]) 3 56 Tryz.underlying23 hi hz0 hz1 hz2 rfl (by decide) _ _ _ rfl (hown1.alloc _) (noint_alloc hown1 hno1 _) z3_no ⟨w1.heap.size, 0, none⟩ 1 1 [.bool b', .slice A1 k1 c1, .slice A2 k2 c2] rfl rfl ?c1 ?c2 ?c3 (by decide) ?c4 ?c5 ?c6 ?_))
        case c1 => intro t u hu; rcases t with _ | _ | _ | t <;> simp at hu <;> subst hu <;> simp [Addr.add]
        case c2 => intro u hu; simp at hu; rcases hu with rfl | rfl | rfl <;> rfl
        case c3 => intro u hu; simp at hu; rcases hu with rfl | rfl | rfl <;> simp
        case c4 => unfold maxLen; omega
        case c5 => omega
        case c6 => simp; have := hb1.size; have := hbel.size; omega
        intro v' w2 hown' hgrow hno'
        have hbel2 : Below w.heap.size w w2 := (hbel1.alloc hbel1.size _).grown hgrow (by simp; have := hbel1.size; omega) (fun q hq => by have := (hown1.lt q hq).1; omega)
        have hq2 : ∀ (i : Nat) (t : T3) (q : Rat), (ts ++ [(b', .slice A1 k1 c1, .slice A2 k2 c2)])[i]? = some t → qs[i]? = some q → RQ w2 t.1 t.2.1 t.2.2 q :=
          facts_snoc (fun i t q ht hqi => (((hq.out i t q ht hqi).below hb1 (Nat.le_refl _)).alloc _).grown (hown1.alloc _) (noint_alloc hown1 hno1 _) hgrow) (fun q hqq => by
            rw [hts.out, List.getElem?_eq_getElem (by rw [HL.out]; exact hlt)] at hqq
            simp only [Option.some.injEq] at hqq
            rw [List.getD_eq_getElem?_getD, List.getElem?_eq_getElem (by rw [HL.out]; exact hlt), Option.getD_some, hqq] at hv
            exact (hv.alloc _).grown (hown1.alloc _) (noint_alloc hown1 hno1 _) hgrow)
        have hown2 : w2.ownsRow w.heap.size 55 3 v' (k + 1) (flat (ts ++ [(b', .slice A1 k1 c1, .slice A2 k2 c2)])) := by rw [flat_append]; exact hown'
        have HQ2 := Lib.hid hq2
        clear hq2 hown' hgrow hown1 hno1 hv hb1 hbel1 hbel hown hno hq
        go_wp2
        go_roundw
        case rel => exact ⟨k + 1, _, by omega, by go_num, Lib.hid (by simp [hts.out]), hown2, hno', HQ2, hbel2⟩
        case measure => simp [intOf]; omega
    · obtain rfl : k = n := by omega
      go_wp2
      go_ret
      exact ⟨_, ts, rfl, hown, hno, hts.out, hq.out, hbel⟩

set_option maxRecDepth 100000 in
set_option maxHeartbeats 8000000 in
theorem table_own (v : Value) (l : List Int) (n odd : Int) (w : World) (h : IsInts .i64 w v l) (hl : ∀ x, x ∈ l → I64 x) :
    Calls Tryz.prog 5 #[v, .int .i64 n, .int .i64 odd] w fun e w' => ∃ r ts, e = .returned (.tuple #[r, .int .i64 (tk n : Int)]) ∧ w'.ownsRow w.heap.size 55 3 r (tbm n odd) (flat ts) ∧ NoInt w' r ∧ ts.length = tbm n odd ∧ (∀ (i : Nat) (t : T3) (q : Rat), ts[i]? = some t → (rowQ l (tbm n odd))[i]? = some q → RQ w' t.1 t.2.1 t.2.2 q) ∧ Below w.heap.size w w' := by
  obtain ⟨k, hk⟩ : ∃ k, tk n = k := ⟨_, rfl⟩
  have hkl := tk_le n
  have hkz : n % 4 + 1 = (k : Int) := by rw [← hk]; unfold tk; omega
  obtain ⟨m, hm⟩ : ∃ m, tbm n odd = m := ⟨_, rfl⟩
  have hmz := hm
  unfold tbm at hmz
  rw [hk] at hkl hmz ⊢
  rw [hm]
  have h16 : 2 ^ k ≤ 16 := Nat.le_trans (Nat.pow_le_pow_right (by decide) hkl.2) (by decide)
  obtain ⟨S, hS⟩ : ∃ S, 2 ^ k = S := ⟨_, rfl⟩
  rw [hS] at h16 hmz
  have hSz : (2 : Int) ^ k = (S : Int) := by rw [← hS, Int.natCast_pow]; rfl
  have hwS : IntKind.i64.wrap (S : Int) = S := by rw [IntKind.wrap_i64]; omega
  have hw0 : IntKind.i64.wrap (n % 4 + 1) = k := by rw [IntKind.wrap_i64]; omega
  have hmm : min k 64 = k := by omega
  have hwm : IntKind.u64.wrap (k : Int) = k := by rw [wrap64u]; omega
  have hP1 := Lib.hid (fun wd => pick_any n 4 wd (by decide) (by decide))
  have hP2 := Lib.hid (fun wd => pick_any odd 9 wd (by decide) (by decide))
  have hR := Lib.hid (row_own v l m w h hl (by split at hmz <;> omega))
  obtain ⟨A, c, rfl, -, -, -⟩ := h
  clear hk hkz hm hl hS hkl
  by_cases ho : odd % 9 = 8
  · have t1 : (odd % 9 == 8) = true := by simpa using ho
    rw [if_pos ho] at hmz
    have hw1 : IntKind.i64.wrap ((S : Int) + 1) = m := by rw [IntKind.wrap_i64]; omega
    clear ho hmz
    go_enter Tryz.func5, Tryz.ntmps5
    go_wp2_with fail
    refine (hP1.out _).mono ?_
    rintro e w1 ⟨rfl, rfl⟩
    go_wp2_with fail
    refine (hP2.out _).mono ?_
    rintro e w1 ⟨rfl, rfl⟩
    go_wp2_with fail
    refine hR.out.mono ?_
    rintro e w1 ⟨r, ts, rfl, hr1, hr2, hr3, hr4, hb⟩
    go_wp2_with fail
    go_ret2
    exact ⟨_, ts, rfl, hr1, hr2, hr3, hr4, hb⟩
  · have t1 : (odd % 9 == 8) = false := by simpa using ho
    rw [if_neg ho] at hmz
    have hw1 : (m : Int) = S := by omega
    obtain rfl : m = S := by omega
    clear ho hmz hw1
    go_enter Tryz.func5, Tryz.ntmps5
    go_wp2_with fail
    refine (hP1.out _).mono ?_
    rintro e w1 ⟨rfl, rfl⟩
    go_wp2_with fail
    refine (hP2.out _).mono ?_
    rintro e w1 ⟨rfl, rfl⟩
    go_wp2_with fail
    refine hR.out.mono ?_
    rintro e w1 ⟨r, ts, rfl, hr1, hr2, hr3, hr4, hb⟩
    go_wp2_with fail
    go_ret2
    exact ⟨_, ts, rfl, hr1, hr2, hr3, hr4, hb⟩

set_option maxRecDepth 100000 in
set_option maxHeartbeats 20000000 in
theorem hsum_any (x : Value) (l : List Rat) (w : World) (h : Row3 QV w x l) (hl : l.length ≤ 4096) (hsh : ∀ q, q ∈ l → Short q) (hp : ∀ k, k ≤ l.length → Short (ps l k)) :
    Calls Tryz.prog 24 #[x] w fun e w' => ∃ b vn vr, e = .returned (.agg #[.bool b, vn, vr]) ∧ QV w' b vn vr (ps l l.length) ∧ Below w.heap.size w w' := by
  obtain ⟨A, c, rfl, hlc, hcm, hat⟩ := h.at
  obtain ⟨L, hL⟩ : ∃ L, l.length = L := ⟨_, rfl⟩
  rw [hL] at hlc hat hl hp ⊢
  unfold maxLen at hcm
  have HL := Lib.hid hL
  have HAT := Lib.hid hat
  have HSH := Lib.hid hsh
  have HP := Lib.hid hp
  have ne1 : ¬ w.heap.size = w.heap.size + 1 := by omega
  have ne2 : ¬ w.heap.size + 1 = w.heap.size := by omega
  clear h hL hat hsh hp
  go_enter Tryz.func24, Tryz.ntmps24
  go_wp2_with fail
  go_loopw [4] (fun i wr => ∃ (k : Nat) (b : Bool) (A1 A2 : Option Addr) (k1 c1 k2 c2 : Nat), k ≤ L ∧ i = .int .i64 k ∧ Hid (Blk wr w.heap.size [.bool false, .slice none 0 0, .slice none 0 0] 40) ∧ Hid (Blk wr (w.heap.size + 1) [.bool b, .slice A1 k1 c1, .slice A2 k2 c2] 40) ∧ Hid (QV wr b (.slice A1 k1 c1) (.slice A2 k2 c2) (ps l k)) ∧ Hid (Below w.heap.size w wr)) (fun i _ => L - (intOf i).toNat)
  case atStart => exact ⟨0, false, none, none, 0, 0, 0, 0, by omega, rfl, Lib.hid ((Blk.mk w w.heap.size rfl [.bool false, .slice none 0 0, .slice none 0 0] 40).alloc _), Lib.hid (Blk.mk _ (w.heap.size + 1) (by simp) [.bool false, .slice none 0 0, .slice none 0 0] 40), Lib.hid (QV.zero _), Lib.hid (by (repeat (first | assumption | exact Below.refl _ _ | refine Below.drew ?_ | refine Below.setCell ?_ (by simp <;> omega) _ | refine Below.alloc ?_ (by simp <;> omega) _)))⟩
  case round =>
    obtain ⟨k, b, A1, A2, k1, c1, k2, c2, hk, rfl, P0, P1, hq, hbel⟩ := hrel
    have kk0 := P1.out.c0
    have kk1 := P1.out.c1
    have kk2 := P1.out.c2
    by_cases hkL : k < L
    · obtain ⟨gl, ol, x3, v7, v8, rfl, hgl, y0, y1, y2, hQ2⟩ := HAT.out k hkL
      replace hQ2 := hQ2.below hbel.out (Nat.le_refl _)
      obtain ⟨A5, k5, c5, A6, k6, c6, rfl, rfl⟩ := hQ2.slices
      have q0_0 := (hbel.out.cell (p := ⟨gl, ol + k * 3, none⟩) hgl).trans y0
      have q0_1 := (hbel.out.cell (p := ⟨gl, ol + k * 3 + 1, none⟩) hgl).trans y1
      have q0_2 := (hbel.out.cell (p := ⟨gl, ol + k * 3 + 2, none⟩) hgl).trans y2
      have lgl : gl < wr.heap.size := Nat.lt_of_lt_of_le hgl hbel.out.size
      have hA := Lib.hid (fun (wd : World) (hb : Below wr.heap.size wr wd) => frAdd_small b x3 _ _ _ _ _ _ wd (hq.out.below hb (Nat.le_refl _)) (hQ2.below hb (Nat.le_refl _)) (HP.out k (by omega)) (HSH.out _ (getD_mem' (by rw [HL.out]; exact hkL))))
      have nb1 : ¬ gl = w.heap.size + 1 := by omega
      have nb2 : ¬ w.heap.size + 1 = gl := by omega
      have hk3 : (k : Int) < (L : Int) := by omega
      clear y0 y1 y2 hQ2 hgl
      go_upto_region 5 with fail
      rw [show Op.load 40 (Operand.tmp 3) = id (Op.load 40 (Operand.tmp 3)) from rfl]
      go_region_held3 (fun w' => w'.cell? ⟨gl, ol + k * 3, none⟩ = some (Value.bool x3) ∧ w'.cell? ⟨gl, ol + k * 3 + 1, none⟩ = some (Value.slice A5 k5 c5) ∧ w'.cell? ⟨gl, ol + k * 3 + 2, none⟩ = some (Value.slice A6 k6 c6)) (go_keep)
      (first
        | ((go_at_call 21; refine (hA.out _ ((Below.refl _ _).drew)).mono ?_; rintro e w_1 ⟨b7, v9, v10, rfl, hq7, hb_1⟩; have hB_1 := Lib.hid ((Below.refl wr.heap.size wr).drew.trans hb_1); have q1_0 : w_1.cell? ⟨gl, ol + k * 3, none⟩ = some (Value.bool x3) := (hb_1.cell (p := ⟨gl, ol + k * 3, none⟩) lgl).trans q0_0; have q1_1 : w_1.cell? ⟨gl, ol + k * 3 + 1, none⟩ = some (Value.slice A5 k5 c5) := (hb_1.cell (p := ⟨gl, ol + k * 3 + 1, none⟩) lgl).trans q0_1; have q1_2 : w_1.cell? ⟨gl, ol + k * 3 + 2, none⟩ = some (Value.slice A6 k6 c6) := (hb_1.cell (p := ⟨gl, ol + k * 3 + 2, none⟩) lgl).trans q0_2; obtain ⟨E1, e1, f1, E2, e2, f2, rfl, rfl⟩ := hq7.slices; have HQ7 := Lib.hid hq7; clear hq7; have P0' := Lib.hid (P0.out.below hB_1.out P0.out.lt); have P1' := Lib.hid (P1.out.below hB_1.out P1.out.lt); have cz0 := P1'.out.c0; have cz1 := P1'.out.c1; have cz2 := P1'.out.c2; have fz0 := P1'.out.frozen 0; have fz1 := P1'.out.frozen 1; have fz2 := P1'.out.frozen 2))
        | ((fail)))
      all_goals go_wp2_with fail
      all_goals
        go_roundw
        case rel =>
          refine ⟨k + 1, b7, E1, E2, e1, f1, e2, f2, by omega, by go_num, Lib.hid (P0'.out.far3 ne1), Lib.hid P1'.out.set3, Lib.hid ⟨⟨HQ7.out.1.1.box3 P1'.out (by simp) (by simp), HQ7.out.1.2⟩, HQ7.out.2.box3 P1'.out (by simp) (by simp)⟩, Lib.hid ?_⟩
          exact K.Below.set3 (hbel.out.trans (hB_1.out.mono hbel.out.size)) (by omega)
        case measure => simp [intOf]; omega
    · obtain rfl : k = L := by omega
      have o0_0 := P0.out.c0
      have o0_1 := P0.out.c1
      have o0_2 := P0.out.c2
      have z0_0 := P0.out.frozen 0
      have z0_1 := P0.out.frozen 1
      have z0_2 := P0.out.frozen 2
      go_wp2_with fail
      refine bodyPost_ret (v := .agg #[.bool b, .slice A1 k1 c1, .slice A2 k2 c2]) (by simp [results, Tryz.results24, go_sem, o0_0, o0_1, o0_2]) rfl ?_
      exact ⟨_, _, _, rfl, ⟨⟨hq.out.1.1.box3 P0.out (by simp) (by simp), hq.out.1.2⟩, hq.out.2.box3 P0.out (by simp) (by simp)⟩, K.Below.set3 hbel.out (Nat.le_refl _)⟩

set_option maxRecDepth 100000 in
set_option maxHeartbeats 20000000 in
theorem permuted_any (v : Value) (lo : List Int) (k : Nat) (w : World) (h : IsInts .i64 w v lo) (hk : k ≤ 4) :
    Calls Tryz.prog 20 #[v, .int .i64 (k : Int)] w fun e w' => ∃ r, e = .returned r ∧ IsInts .i64 w' r ((prm lo k).map Int.ofNat) ∧ Below w.heap.size w w' := by
  obtain ⟨A2, c2, rfl, hlc2, hm2, hr2⟩ := h
  unfold maxLen at hm2
  have HR2 := Lib.hid hr2
  have hP1 := Lib.hid (fun (a : Int) (m : Nat) (h1 : 1 ≤ m) (h2 : m ≤ 5) wd => pick_any a (m : Int) wd (by omega) (by omega))
  obtain ⟨i1, hi1, hy0, hy1, hy2⟩ := info_parts Tryz.infoInt
  clear hr2
  go_enter Tryz.func20, Tryz.ntmps20
  go_wp2_with fail
  go_loopw [5, 6] (fun out j wr => ∃ i : Nat, i ≤ k ∧ j = .int .i64 i ∧ Hid (IsInts .i64 wr out ((prm lo i).map Int.ofNat)) ∧ Hid (Below w.heap.size w wr)) (fun _ j _ => k - (intOf j).toNat)
  case atStart => exact ⟨0, by omega, rfl, Lib.hid (IsInts.nil _ _), Lib.hid (Below.refl _ _)⟩
  case round =>
    obtain ⟨i, hik, rfl, HI, hbel⟩ := hrel
    by_cases hlt : i < k
    · obtain ⟨Ai, ci, eo, hlci, hmci, -⟩ := HI.out
      subst eo
      have hstep : prm lo (i + 1) = insAt (prm lo i) (if i < lo.length then (lo.getD i 0 % ((i : Int) + 1)).toNat else 0) i := rfl
      have hln := (prm_all lo i).1
      rw [List.length_map, hln] at hlci hmci HI ⊢
      generalize prm lo i = l at *
      have HLN := Lib.hid hln
      obtain ⟨m, hm⟩ : ∃ m, (if i < lo.length then (lo.getD i 0 % ((i : Int) + 1)).toNat else 0) = m := ⟨_, rfl⟩
      rw [hm] at hstep
      have HST := Lib.hid hstep
      have hmi : m ≤ i := by
        rw [← hm]
        split
        · have := Int.emod_lt_of_pos (lo.getD i 0) (show (0 : Int) < (i : Int) + 1 by omega)
          omega
        · omega
      have hk1 : (0 : Int) ≤ (m : Int) := by omega
      have hk2 : (m : Int) ≤ (i : Int) := by omega
      have hk3 : (m : Int) ≤ (ci : Int) := by omega
      have hk4 : (i : Int) ≤ (ci : Int) := by omega
      clear hln hstep
      by_cases hil : i < lo.length
      · obtain ⟨b2, o2, rfl, hb2, hcell2⟩ := HR2.out (by omega)
        have hxo := (hbel.out.cell (p := ⟨b2, o2 + i, none⟩) hb2).trans (hcell2 i hil)
        have hPx := hP1.out (lo.getD i 0) (i + 1) (by omega) (by omega)
        rw [if_pos hil] at hm
        have hmz : lo.getD i 0 % ((i + 1 : Nat) : Int) = m := by
          have := Int.emod_nonneg (lo.getD i 0) (show (i : Int) + 1 ≠ 0 by omega)
          rw [show ((i + 1 : Nat) : Int) = (i : Int) + 1 by omega]
          omega
        rw [hmz] at hPx
        generalize lo.getD i 0 = a0 at *
        replace hPx := Lib.hid hPx
        clear hcell2 hm hmz
        have e1 : IntKind.i64.wrap ((i : Int) + 1) = ((i + 1 : Nat) : Int) := by rw [IntKind.wrap_i64]; omega
        go_wp2_with fail
        refine (hPx.out _).mono ?_
        rintro e w4 ⟨rfl, rfl⟩
        clear hxo e1
        go_upto_region 8 with fail
        go_region_held3 (fun _ => True) (go_keep)
          (first
            | ((refine step_append_ints rfl (.tmp 25) (.tmp 28) 22 rfl wr.heap.size 3 i1 (.int .i64 0) 8 Tryz.underlying22 hi1 hy0 hy1 hy2 rfl (.slice (some ⟨wr.heap.size, 0, none⟩) 0 0) 0 [] (by rfl) (by first | (exact own_fresh _ _ 3 (by simp) (by simp)) | (exact (own_fresh _ _ 3 (by simp) (by simp)).alloc _)) _ ((l.map Int.ofNat).take m) (by rfl) ((HI.out.below (by (repeat (first | with_reducible exact Below.refl _ _ | with_reducible refine Below.drew ?_ | with_reducible refine Below.alloc' ?_ _)); done) (Nat.le_refl _)).take (by rw [List.length_map, HLN.out]; omega)) m (by rw [List.length_take, List.length_map, HLN.out]; omega) (by unfold maxLen; omega) (by omega) (by simp <;> omega) ?_; intro A5 c5 w5 hown5 hgrow5; have hx5 : Below wr.heap.size wr w5 := K.Below.grown (by (repeat (first | with_reducible exact Below.refl _ _ | with_reducible refine Below.drew ?_ | with_reducible refine Below.alloc' ?_ _)); done) hgrow5 (fun q hq => by simp [Value.ownBlock] at hq; omega) (by simp <;> omega); have HI5 := Lib.hid (HI.out.below hx5 (Nat.le_refl _)); skip; (first | (have hB5 : IsInts .i64 w5 (.slice (some ⟨wr.heap.size + 1, 0, none⟩) 1 1) [(i : Int)] := (ints_one (wr.alloc (.cells #[] 3)) (i : Int) 3 (by simp)).drew.grown_ne hgrow5 (by intro A n c e; injection e with e _ _; injection e with e; subst e; simp [Value.ownBlock]; done)) | skip); clear hgrow5))
            | ((refine step_append_ints rfl (.tmp 25) (.tmp 28) 22 rfl wr.heap.size 3 i1 (.int .i64 0) 8 Tryz.underlying22 hi1 hy0 hy1 hy2 rfl (.slice (some ⟨wr.heap.size + 1, 0, none⟩) 0 0) 0 [] (by rfl) (own_fresh _ _ 3 (by simp) (by simp)) _ ((l.map Int.ofNat).take m) (by rfl) ((HI.out.below (by (repeat (first | with_reducible exact Below.refl _ _ | with_reducible refine Below.drew ?_ | with_reducible refine Below.alloc' ?_ _)); done) (Nat.le_refl _)).take (by rw [List.length_map, HLN.out]; omega)) m (by rw [List.length_take, List.length_map, HLN.out]; omega) (by unfold maxLen; omega) (by omega) (by simp <;> omega) ?_; intro A5 c5 w5 hown5 hgrow5; have hx5 : Below wr.heap.size wr w5 := K.Below.grown (by (repeat (first | with_reducible exact Below.refl _ _ | with_reducible refine Below.drew ?_ | with_reducible refine Below.alloc' ?_ _)); done) hgrow5 (fun q hq => by simp [Value.ownBlock] at hq; omega) (by simp <;> omega); have HI5 := Lib.hid (HI.out.below hx5 (Nat.le_refl _)); skip; (have hB5 : IsInts .i64 w5 (.slice (some ⟨wr.heap.size, 0, none⟩) 1 1) [(i : Int)] := ((ints_one wr (i : Int) 3 rfl).alloc (.cells #[] 3)).drew.grown_ne hgrow5 (by intro A n c e; injection e with e _ _; injection e with e; subst e; simp [Value.ownBlock]; done)); clear hgrow5))
            | ((refine step_append_ints rfl (.tmp 29) (.tmp 31) 22 rfl wr.heap.size 3 i1 (.int .i64 0) 8 Tryz.underlying22 hi1 hy0 hy1 hy2 rfl (.slice A5 m c5) m ((l.map Int.ofNat).take m) (by rfl) (by first | (exact hown5) | (exact hown5.alloc _)) _ [(i : Int)] (by rfl) (by first | (exact hB5) | (exact ints_one _ _ 3 rfl)) (m + 1) rfl (by unfold maxLen; omega) (by omega) (by have := hx5.size; simp; omega) ?_; intro A6 c6 w6 hown6 hgrow6; have hx6 : Below wr.heap.size wr w6 := K.Below.grown (by first | (exact hx5) | (exact hx5.alloc hx5.size _)) hgrow6 (fun q hq => (hown5.lt q hq).1) (by have := hx5.size; simp; omega); have HI6 := Lib.hid (HI.out.below hx6 (Nat.le_refl _)); skip; clear hgrow6 hown5 hx5 HI5))
            | ((refine step_append_ints rfl (.tmp 32) (.tmp 35) 22 rfl wr.heap.size 3 i1 (.int .i64 0) 8 Tryz.underlying22 hi1 hy0 hy1 hy2 rfl (.slice A6 (m + 1) c6) (m + 1) ((l.map Int.ofNat).take m ++ [(i : Int)]) (by rfl) hown6 _ ((l.map Int.ofNat).drop m) (by rfl) (HI6.out.drop (by rw [List.length_map, HLN.out]; omega)) (i + 1) (by rw [List.length_drop, List.length_map, HLN.out]; omega) (by unfold maxLen; omega) (by omega) (by have := hx6.size; omega) ?_; intro A7 c7 w7 hown7 hgrow7; have hx7 : Below wr.heap.size wr w7 := K.Below.grown hx6 hgrow7 (fun q hq => (hown6.lt q hq).1) hx6.size; have HR7 := Lib.hid hown7; have HX7 := Lib.hid hx7; clear hgrow7 hown6 hx6 HI6))
            | ((fail)))
        all_goals go_wp2_with fail
        all_goals
          go_roundw
          case rel => exact ⟨i + 1, by omega, by go_num, Lib.hid (by rw [HST.out, show (insAt l m i).map Int.ofNat = (l.map Int.ofNat).take m ++ [(i : Int)] ++ (l.map Int.ofNat).drop m by simp [insAt, List.map_take, List.map_drop]]; exact own_ints HR7.out (by simp [HLN.out] <;> omega)), Lib.hid (hbel.out.trans (HX7.out.mono hbel.out.size))⟩
          case measure => simp [intOf]; omega
      · rw [if_neg hil] at hm
        obtain rfl : 0 = m := hm
        go_upto_region 8 with fail
        go_region_held3 (fun _ => True) (go_keep)
          (first
            | ((refine step_append_ints rfl (.tmp 25) (.tmp 28) 22 rfl wr.heap.size 3 i1 (.int .i64 0) 8 Tryz.underlying22 hi1 hy0 hy1 hy2 rfl (.slice (some ⟨wr.heap.size, 0, none⟩) 0 0) 0 [] (by rfl) (by first | (exact own_fresh _ _ 3 (by simp) (by simp)) | (exact (own_fresh _ _ 3 (by simp) (by simp)).alloc _)) _ ((l.map Int.ofNat).take 0) (by rfl) ((HI.out.below (by (repeat (first | with_reducible exact Below.refl _ _ | with_reducible refine Below.drew ?_ | with_reducible refine Below.alloc' ?_ _)); done) (Nat.le_refl _)).take (by rw [List.length_map, HLN.out]; omega)) 0 (by rw [List.length_take, List.length_map, HLN.out]; omega) (by unfold maxLen; omega) (by omega) (by simp <;> omega) ?_; intro A5 c5 w5 hown5 hgrow5; have hx5 : Below wr.heap.size wr w5 := K.Below.grown (by (repeat (first | with_reducible exact Below.refl _ _ | with_reducible refine Below.drew ?_ | with_reducible refine Below.alloc' ?_ _)); done) hgrow5 (fun q hq => by simp [Value.ownBlock] at hq; omega) (by simp <;> omega); have HI5 := Lib.hid (HI.out.below hx5 (Nat.le_refl _)); skip; (first | (have hB5 : IsInts .i64 w5 (.slice (some ⟨wr.heap.size + 1, 0, none⟩) 1 1) [(i : Int)] := (ints_one (wr.alloc (.cells #[] 3)) (i : Int) 3 (by simp)).drew.grown_ne hgrow5 (by intro A n c e; injection e with e _ _; injection e with e; subst e; simp [Value.ownBlock]; done)) | skip); clear hgrow5))
            | ((refine step_append_ints rfl (.tmp 25) (.tmp 28) 22 rfl wr.heap.size 3 i1 (.int .i64 0) 8 Tryz.underlying22 hi1 hy0 hy1 hy2 rfl (.slice (some ⟨wr.heap.size + 1, 0, none⟩) 0 0) 0 [] (by rfl) (own_fresh _ _ 3 (by simp) (by simp)) _ ((l.map Int.ofNat).take 0) (by rfl) ((HI.out.below (by (repeat (first | with_reducible exact Below.refl _ _ | with_reducible refine Below.drew ?_ | with_reducible refine Below.alloc' ?_ _)); done) (Nat.le_refl _)).take (by rw [List.length_map, HLN.out]; omega)) 0 (by rw [List.length_take, List.length_map, HLN.out]; omega) (by unfold maxLen; omega) (by omega) (by simp <;> omega) ?_; intro A5 c5 w5 hown5 hgrow5; have hx5 : Below wr.heap.size wr w5 := K.Below.grown (by (repeat (first | with_reducible exact Below.refl _ _ | with_reducible refine Below.drew ?_ | with_reducible refine Below.alloc' ?_ _)); done) hgrow5 (fun q hq => by simp [Value.ownBlock] at hq; omega) (by simp <;> omega); have HI5 := Lib.hid (HI.out.below hx5 (Nat.le_refl _)); skip; (have hB5 : IsInts .i64 w5 (.slice (some ⟨wr.heap.size, 0, none⟩) 1 1) [(i : Int)] := ((ints_one wr (i : Int) 3 rfl).alloc (.cells #[] 3)).drew.grown_ne hgrow5 (by intro A n c e; injection e with e _ _; injection e with e; subst e; simp [Value.ownBlock]; done)); clear hgrow5))
            | ((refine step_append_ints rfl (.tmp 29) (.tmp 31) 22 rfl wr.heap.size 3 i1 (.int .i64 0) 8 Tryz.underlying22 hi1 hy0 hy1 hy2 rfl (.slice A5 0 c5) 0 ((l.map Int.ofNat).take 0) (by rfl) (by first | (exact hown5) | (exact hown5.alloc _)) _ [(i : Int)] (by rfl) (by first | (exact hB5) | (exact ints_one _ _ 3 rfl)) (0 + 1) rfl (by unfold maxLen; omega) (by omega) (by have := hx5.size; simp; omega) ?_; intro A6 c6 w6 hown6 hgrow6; have hx6 : Below wr.heap.size wr w6 := K.Below.grown (by first | (exact hx5) | (exact hx5.alloc hx5.size _)) hgrow6 (fun q hq => (hown5.lt q hq).1) (by have := hx5.size; simp; omega); have HI6 := Lib.hid (HI.out.below hx6 (Nat.le_refl _)); skip; clear hgrow6 hown5 hx5 HI5))
            | ((refine step_append_ints rfl (.tmp 32) (.tmp 35) 22 rfl wr.heap.size 3 i1 (.int .i64 0) 8 Tryz.underlying22 hi1 hy0 hy1 hy2 rfl (.slice A6 (0 + 1) c6) (0 + 1) ((l.map Int.ofNat).take 0 ++ [(i : Int)]) (by rfl) hown6 _ ((l.map Int.ofNat).drop 0) (by rfl) (show IsInts .i64 w6 (.slice Ai i ci) ((l.map Int.ofNat).drop 0) from (List.drop_zero (l := l.map Int.ofNat)).symm ▸ HI6.out) (i + 1) (by rw [List.length_drop, List.length_map, HLN.out]; omega) (by unfold maxLen; omega) (by omega) (by have := hx6.size; omega) ?_; intro A7 c7 w7 hown7 hgrow7; have hx7 : Below wr.heap.size wr w7 := K.Below.grown hx6 hgrow7 (fun q hq => (hown6.lt q hq).1) hx6.size; have HR7 := Lib.hid hown7; have HX7 := Lib.hid hx7; clear hgrow7 hown6 hx6 HI6))
            | ((fail)))
        all_goals go_wp2_with fail
        all_goals
          go_roundw
          case rel => exact ⟨i + 1, by omega, by go_num, Lib.hid (by rw [HST.out, show (insAt l 0 i).map Int.ofNat = (l.map Int.ofNat).take 0 ++ [(i : Int)] ++ (l.map Int.ofNat).drop 0 by simp [insAt]]; exact own_ints HR7.out (by simp [HLN.out] <;> omega)), Lib.hid (hbel.out.trans (HX7.out.mono hbel.out.size))⟩
          case measure => simp [intOf]; omega
    · obtain rfl : i = k := by omega
      go_wp2_with fail
      go_ret
      exact ⟨_, rfl, HI.out, hbel.out⟩

end Go.Proofs.YtjfkniknmkcdcaaGreatDoor
