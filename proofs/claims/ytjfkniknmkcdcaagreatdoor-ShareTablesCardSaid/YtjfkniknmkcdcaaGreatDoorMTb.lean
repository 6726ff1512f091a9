/- The walk of the law ShareTables. (printed by wip/gen/tb.py) -/
import Derived.Test.YtjfkniknmkcdcaaGreatDoorMBt
namespace Go.Proofs.YtjfkniknmkcdcaaGreatDoor
open Go.RowKit K Nu


theorem sameRow_ok (v1 v2 : Value) (ps qs : List Rat) (w : World) (h1 : Row3 QV w v1 ps) (h2 : Row3 RQ w v2 qs) (sp : ∀ p, p ∈ ps → Short p) (e : ps = qs) :
    Calls Tryz.prog 14 #[v1, v2] w fun e w' => e = .returned (.bool true) ∧ Below w.heap.size w w' := by
  subst e
  have := sameRow_any v1 v2 ps ps w h1 h2 sp sp rfl
  rw [decide_eq_true rfl] at this
  exact this
theorem same_ok (b1 b2 : Bool) (v1 v2 v3 v4 : Value) (p : Rat) (w : World) (hp : QV w b1 v1 v2 p) (sp : Short p) (hq : RQ w b2 v3 v4 p) :
    Calls Tryz.prog 16 #[.agg #[.bool b1, v1, v2], .agg #[.bool b2, v3, v4]] w fun e w' => e = .returned (.bool true) ∧ Below w.heap.size w w' := by
  have := same_any b1 b2 v1 v2 v3 v4 p p w hp sp hq sp
  rw [decide_eq_true rfl] at this
  exact this
theorem sign_zero (w : World) : Calls Tryz.prog 13 #[.agg #[.bool false, .slice none 0 0, .slice none 0 0]] w fun e w' => e = .returned (.int .i64 0) ∧ Below w.heap.size w w' := by
  have := frSign_any false (.slice none 0 0) (.slice none 0 0) 0 0 w ⟨NatV.nil _, rfl⟩ (NatV.nil _) (by decide)
  exact this
theorem Tiny.short {q : Rat} (h : Tiny q) : Short q := ⟨by have := h.1; omega, by have := h.1; omega, by have := h.2; omega⟩
theorem tset_short {v : List Rat} {n : Nat} (h : RFit v n) {os : List Nat} : ∀ q, q ∈ tset v os 0 (List.replicate n 0) → Short q := by
  intro q hq
  obtain ⟨c, hc, rfl⟩ := List.mem_iff_getElem.1 hq
  have := h.t os c
  rw [← tset_get, List.getD_eq_getElem?_getD, List.getElem?_eq_getElem hc] at this
  exact Tiny.short this
set_option maxRecDepth 100000 in
set_option maxHeartbeats 2000000 in
theorem turns_bad (A1 A2 : Option Addr) (L n2 c1 c2 : Nat) (w : World) (hc : cols L = 0) :
    Calls Tryz.prog 10 #[.slice A1 L c1, .slice A2 n2 c2] w fun e w' => e = .returned (.tuple #[.slice none 0 0, .int .i64 5]) ∧ Below w.heap.size w w' := by
  have hC := fun wd => columns_any A1 L c1 wd
  rw [hc] at hC
  have HC := Lib.hid hC
  clear hC hc
  go_enter Tryz.func10, Tryz.ntmps10
  go_wp2_with fail
  refine (HC.out _).mono ?_
  rintro e w1 ⟨rfl, rfl⟩
  go_wp2_with fail
  go_ret2
  exact ⟨rfl, by (repeat (first | assumption | exact Below.refl _ _ | refine Below.drew ?_ | refine Below.setCell ?_ (by simp <;> omega) _ | refine Below.alloc ?_ (by simp <;> omega) _))⟩
theorem shs_short {v : List Rat} {n : Nat} (h : Fit v n) : ∀ q, q ∈ shs v n → Short q := by
  intro q hq
  simp only [shs, List.mem_map, List.mem_range] at hq
  obtain ⟨c, hc, rfl⟩ := hq
  exact h.a _ c (Nat.le_refl _) hc

theorem own_ne_symm {u v : Value} (h : u.ownBlock = none ∨ u.ownBlock ≠ v.ownBlock) : v.ownBlock = none ∨ v.ownBlock ≠ u.ownBlock := by
  rcases h with h | h
  · cases e : v.ownBlock with
    | none => exact .inl rfl
    | some b => exact .inr (by rw [h]; simp)
  · exact .inr (Ne.symm h)
theorem own_cell1 {w : World} {base n : Nat} {e : TypeId} {A : Value} {l : List Nat} (h : w.ownsRow base e 1 A n (vs .i64 (l.map Int.ofNat))) (hn : n = l.length) :
    (∃ B c, A = .slice B n c ∧ n ≤ c) ∧ ∀ i, i < n → ∃ g c, A = .slice (some ⟨g, 0, none⟩) n c ∧ w.cell? ⟨g, i, none⟩ = some (.int .i64 (l.getD i 0 : Int)) := by
  refine ⟨?_, fun i hi => ?_⟩
  · rcases h.2 with ⟨rfl, h0⟩ | ⟨g, cap, cur, rfl, -, -, hc, -⟩
    · exact ⟨none, 0, by rw [h0], by omega⟩
    · exact ⟨_, _, rfl, hc⟩
  · rcases h.2 with ⟨rfl, h0⟩ | ⟨g, cap, cur, rfl, -, -, hc, -⟩
    · omega
    · have := h.cells (g := g) rfl i (.int .i64 (l.getD i 0 : Int)) (by
        rw [vs_get, List.getElem?_map, List.getElem?_eq_getElem (by omega), List.getD_eq_getElem?_getD, List.getElem?_eq_getElem (by omega)]; rfl)
      rw [show (⟨g, 0, none⟩ : Addr).add i = ⟨g, i, none⟩ by unfold Addr.add; split <;> simp_all] at this
      exact ⟨g, cap, rfl, this⟩

set_option maxRecDepth 100000 in
set_option maxHeartbeats 20000000 in
theorem shareTables_walk (v1 v2 : Value) (l lo : List Int) (n odd set : Int) (w : World) (h1 : IsInts .i64 w v1 l) (h2 : IsInts .i64 w v2 lo) (hl1 : ∀ x, x ∈ l → I64 x) (_hl2 : ∀ x, x ∈ lo → I64 x) (hF : Fac w) :
    Calls Tryz.prog 3 #[v1, v2, .int .i64 n, .int .i64 odd, .int .i64 set] w fun e w' => e = .returned (.bool true) ∧ Below w.heap.size w w' := by
  obtain ⟨k, hk⟩ : ∃ k, tk n = k := ⟨_, rfl⟩
  have hkl := tk_le n
  rw [hk] at hkl
  obtain ⟨p, hp⟩ : ∃ p : Nat, set % 64 = p := ⟨(set % 64).toNat, by omega⟩
  have hp64 : p < 64 := by omega
  have hT1 := table_any v1 l n odd w h1 hl1
  rw [hk] at hT1
  have hT := Lib.hid hT1
  have hP2 := fun wd => pick_any set 64 wd (by decide) (by decide)
  rw [hp] at hP2
  replace hP2 := Lib.hid hP2
  have hP1 := Lib.hid (fun (a : Int) wd => pick_any a (k : Int) wd (by omega) (by omega))
  have HF := Lib.hid hF
  have HK := Lib.hid hk
  obtain ⟨i0, hi, hz0, hz1, hz2⟩ := info_parts Tryz.infoBool
  obtain ⟨i1, hi1, hy0, hy1, hy2⟩ := info_parts Tryz.infoInt
  obtain ⟨A2, c2, rfl, hlc2, hm2, hr2⟩ := h2
  unfold maxLen at hm2
  have HR2 := Lib.hid hr2
  clear hk hp hT1 h1 hl1 hF hr2
  go_enter Tryz.func3, Tryz.ntmps3
  go_wp2_with fail
  refine hT.out.mono ?_
  rintro e w1 ⟨r1, rfl, hr1, hb1⟩
  obtain ⟨Av, cv, rfl, -, -, -⟩ := hr1.at
  have R1 := Lib.hid hr1
  have B1 := Lib.hid hb1
  clear hr1 hb1 hT
  go_wp2_with fail
  go_loopw [13, 14, 15, 16, 17] (fun o hv s f i wr => ∃ (q t : Nat), q ≤ k ∧ i = .int .i64 q ∧ s = .int .i64 t ∧ t < 16 ∧ Hid (∀ j, t.testBit j = (decide (j < q) && p.testBit j)) ∧ Hid (wr.ownsRow w1.heap.size 3 1 o q (vs .i64 ((ordL lo k q).map Int.ofNat))) ∧ Hid (q = 0 → o = .slice none 0 0) ∧ Hid (wr.ownsRow w1.heap.size 4 1 hv q ((bitsB p q).map Value.bool)) ∧ Hid (NoInt wr hv) ∧ Hid (Below w1.heap.size w1 wr) ∧ f = .bool (decide (ordL lo k q).Nodup)) (fun _ _ _ _ i _ => k - (intOf i).toNat)
  case atStart => exact ⟨0, 0, by omega, rfl, rfl, by omega, Lib.hid (fun i => by simp), Lib.hid (World.ownsRow_nil _ _ _ _), Lib.hid (fun _ => rfl), Lib.hid (World.ownsRow_nil _ _ _ _), Lib.hid (NoInt.nil _), Lib.hid (Below.refl _ _), rfl⟩
  case round =>
    obtain ⟨i, t, hik, rfl, rfl, ht16, htb, hown, h0', hbown, hbno, hbel, rfl⟩ := hrel
    by_cases hlt : i < k
    · have hi4 : i < 4 := by omega
      have hpz : (2 : Int) ^ i = ((2 ^ i : Nat) : Int) := by rw [Int.natCast_pow]; rfl
      have hk2 : (2 : Nat) ^ i < 2 ^ 4 := Nat.pow_lt_pow_right (by decide) hi4
      have ht2 : t ||| 2 ^ i < 16 := Nat.or_lt_two_pow (n := 4) ht16 hk2
      have hor : bits .or .i64 (t : Int) (2 ^ i) = ((t ||| 2 ^ i : Nat) : Int) := by
        rw [hpz]
        exact Tryz.or_i64 (by omega) (Nat.lt_trans hk2 (by decide))
      have hw : IntKind.i64.wrap ((2 : Int) ^ i) = 2 ^ i := by
        rw [hpz, IntKind.wrap_i64]
        rw [show (2 : Nat) ^ 4 = 16 from rfl] at hk2
        generalize (2 : Nat) ^ i = X at *
        omega
      obtain ⟨t', ht'⟩ : ∃ t', t ||| 2 ^ i = t' := ⟨_, rfl⟩
      rw [ht'] at hor ht2
      have htb' : ∀ j, t'.testBit j = (t.testBit j || decide (i = j)) := fun j => by rw [← ht', Nat.testBit_or, Nat.testBit_two_pow]
      have HTB := Lib.hid htb'
      have HBS := Lib.hid (bitsB_succ p i)
      have HOS := Lib.hid (ordL_succ lo k i)
      have hbit := bit_at (s := p) (k := i) (by omega)
      have htn := Lib.hid (show ∀ j, (if p.testBit i = true then t' else t).testBit j = (decide (j < i + 1) && p.testBit j) from fun j => by
        by_cases hb : p.testBit i = true
        · rw [if_pos hb, HTB.out, htb.out]
          by_cases e : i = j
          · subst e; simp [hb]
          · simp only [e, decide_false, Bool.or_false]
            congr 1
            simp only [decide_eq_decide]; omega
        · rw [if_neg hb, htb.out]
          by_cases e : i = j
          · subst e; simp [hb]
          · congr 1
            simp only [decide_eq_decide]; omega)
      clear hpz hk2 ht' htb'
      have h0 := h0'.out
      obtain ⟨⟨Bo, co', eo, hlo⟩, hco⟩ := own_cell1 hown.out (ordL_len lo k i).symm
      subst eo
      have HCO := Lib.hid hco
      clear h0' hco
      by_cases hil : i < lo.length
      · obtain ⟨b2, o2, rfl, hb2, hcell2⟩ := HR2.out (by omega)
        have hxo := (hbel.out.cell (p := ⟨b2, o2 + i, none⟩) (Nat.lt_of_lt_of_le hb2 B1.out.size)).trans ((B1.out.cell (p := ⟨b2, o2 + i, none⟩) hb2).trans (hcell2 i hil))
        have hPx := hP1.out (lo.getD i 0)
        obtain ⟨x, hx⟩ : ∃ x, ordX lo k i = x := ⟨_, rfl⟩
        have hxz : lo.getD i 0 % (k : Int) = x := by
          rw [← hx]; unfold ordX; rw [if_pos hil]
          have := Int.emod_nonneg (lo.getD i 0) (show (k : Int) ≠ 0 by omega)
          omega
        rw [hxz] at hPx
        generalize lo.getD i 0 = a0 at *
        replace hPx := Lib.hid hPx
        have HX := Lib.hid hx
        clear hcell2 hx hxz
        go_wp2_with fail
        refine (hPx.out _).mono ?_
        rintro e w4 ⟨rfl, rfl⟩
        clear hxo
        go_wp2_with fail
        go_loopw [19, 16] (fun j f wr' => ∃ u : Nat, u ≤ i ∧ j = .int .i64 u ∧ f = .bool (decide ((ordL lo k i).Nodup ∧ ∀ t, t < u → (ordL lo k i).getD t 0 ≠ x)) ∧ wr' = wr) (fun j _ _ => i - (intOf j).toNat)
        case atStart => exact ⟨0, by omega, rfl, by simp, rfl⟩
        case round =>
          obtain ⟨u, hu, rfl, rfl, rfl⟩ := hrel
          by_cases hui : u < i
          · obtain ⟨g, cg, eg, hcu⟩ := HCO.out u hui
            injection eg with eg _ _
            subst eg
            obtain ⟨a, ha⟩ : ∃ a, (ordL lo k i).getD u 0 = a := ⟨_, rfl⟩
            rw [ha] at hcu
            by_cases hF : (ordL lo k i).Nodup ∧ ∀ t, t < u → (ordL lo k i).getD t 0 ≠ x
            · rw [decide_eq_true hF]
              by_cases hax : a = x
              · have t1 : ((a : Int) != (x : Int)) = false := by rw [hax]; simp
                have hN := Lib.hid (show decide ((ordL lo k i).Nodup ∧ ∀ t, t < u + 1 → (ordL lo k i).getD t 0 ≠ x) = false from decide_eq_false (fun h => h.2 u (Nat.lt_succ_self _) (by rw [ha, hax])))
                clear hF ha hax
                go_wp2_with fail
                go_roundw
                case rel => exact ⟨u + 1, by omega, by go_num, by rw [hN.out], trivial⟩
                case measure => simp [intOf]; omega
              · have t1 : ((a : Int) != (x : Int)) = true := bne_iff_ne.2 (by omega)
                have hN := Lib.hid (show decide ((ordL lo k i).Nodup ∧ ∀ t, t < u + 1 → (ordL lo k i).getD t 0 ≠ x) = true from decide_eq_true ⟨hF.1, fun t ht => by
                  by_cases e : t = u
                  · subst e; rw [ha]; exact hax
                  · exact hF.2 t (by omega)⟩)
                clear hF ha hax
                go_wp2_with fail
                go_roundw
                case rel => exact ⟨u + 1, by omega, by go_num, by rw [hN.out], trivial⟩
                case measure => simp [intOf]; omega
            · rw [decide_eq_false hF]
              have hN := Lib.hid (show decide ((ordL lo k i).Nodup ∧ ∀ t, t < u + 1 → (ordL lo k i).getD t 0 ≠ x) = false from decide_eq_false (fun h => hF ⟨h.1, fun t ht => h.2 t (by omega)⟩))
              clear hF ha
              go_wp2_with fail
              go_roundw
              case rel => exact ⟨u + 1, by omega, by go_num, by rw [hN.out], trivial⟩
              case measure => simp [intOf]; omega
          · obtain rfl : i = u := by omega
            have FN := Lib.hid (show decide ((ordL lo k i).Nodup ∧ ∀ t, t < i → (ordL lo k i).getD t 0 ≠ x) = decide (ordL lo k (i + 1)).Nodup from decide_eq_decide.2 (by rw [HOS.out, HX.out, nodup_snoc, ordL_len]))
            generalize decide ((ordL lo k i).Nodup ∧ ∀ t, t < i → (ordL lo k i).getD t 0 ≠ x) = fin at *
            clear hui hu
            by_cases hb : p.testBit i = true
            · rw [if_pos hb] at hbit
              have HB := Lib.hid hb
              clear hb
              go_wp2_with ((at_builtin; refine wpList_append_ints rfl _ _ 22 rfl w1.heap.size 3 i1 (.int .i64 0) 8 Tryz.underlying22 hi1 hy0 hy1 hy2 rfl _ i _ rfl (hown.out.alloc _) _ [(x : Int)] rfl (ints_one wr (x : Int) 3 rfl) (i + 1) rfl (by unfold maxLen; omega) (by omega) (by have := hbel.out.size; simp; omega) ?_))
              intro Ao co w3 hown' hgrow
              have hbel3 := Lib.hid (K.Below.grown (hbel.out.alloc hbel.out.size _) hgrow (fun q hq => (hown.out.lt q hq).1) (by have := hbel.out.size; simp; omega))
              have hne := own_ne (hown.out.alloc (.cells #[.int .i64 (x : Int)] 3)) h0 (noint_alloc hbown.out hbno.out _)
              have hbown3 := Lib.hid ((hbown.out.alloc _).kept hgrow hne)
              have hbno3 := Lib.hid ((noint_alloc hbown.out hbno.out _).grown hgrow (fun g hg => ((hbown.out.alloc (.cells #[.int .i64 (x : Int)] 3)).lt g hg).2) hne)
              have hown3 := Lib.hid (show w3.ownsRow w1.heap.size 3 1 (.slice Ao (i + 1) co) (i + 1) (vs .i64 ((ordL lo k (i + 1)).map Int.ofNat)) by rw [HOS.out, List.map_append, HX.out]; exact hown')
              clear hgrow hne hown' hown hbown hbno hbel h0
              go_wp2_with fail
              refine (hP2.out _).mono ?_
              rintro e w4 ⟨rfl, rfl⟩
              go_wp2_with ((at_builtin; refine wpList_append_noint rfl _ _ 26 rfl w1.heap.size 4 i0 (.bool false) 1 1 Tryz.underlying26 hi hz0 hz1 hz2 rfl (by decide) _ _ _ rfl (hbown3.out.alloc _) (noint_alloc hbown3.out hbno3.out _) zb_no ⟨w3.heap.size, 0, none⟩ 1 1 [.bool true] rfl rfl ?c1 ?c2 ?c3 (by decide) ?c4 ?c5 ?c6 ?_))
              case c1 => intro t u hu; rcases t with _ | t <;> simp at hu <;> subst hu <;> simp [Addr.add]
              case c2 => intro u hu; simp at hu; subst hu; rfl
              case c3 => intro u hu; simp at hu; subst hu; simp
              case c4 => unfold maxLen; omega
              case c5 => omega
              case c6 => simp; have := hbel3.out.size; omega
              intro v' w5 hown' hgrow hno'
              have hbel5 := Lib.hid (K.Below.grown (hbel3.out.alloc hbel3.out.size _) hgrow (fun q hq => (hbown3.out.lt q hq).1) (by have := hbel3.out.size; simp; omega))
              have hbown5 : w5.ownsRow w1.heap.size 4 1 v' (i + 1) ((bitsB p (i + 1)).map Value.bool) := by rw [HBS.out, HB.out, List.map_append]; exact hown'
              have hne2 : Value.ownBlock (.slice Ao (i + 1) co) = none ∨ Value.ownBlock (.slice Ao (i + 1) co) ≠ _ := (own_ne_symm (own_ne (hown3.out.alloc (.cells #[.bool true] 4)) (fun h => by omega) (noint_alloc hbown3.out hbno3.out _)))
              have hown5 := Lib.hid ((hown3.out.alloc _).kept hgrow hne2)
              obtain ⟨g, cap, rfl, hgb, hgc, hgm⟩ : ∃ g cap, v' = .slice (some ⟨g, 0, none⟩) (i + 1) cap ∧ w1.heap.size ≤ g ∧ i + 1 ≤ cap ∧ cap ≤ maxLen := by
                rcases hbown5.2 with ⟨-, h0⟩ | ⟨g, cap, cur, rfl, hb, -, hc, hm, -⟩
                · omega
                · exact ⟨g, cap, rfl, hb, hc, hm⟩
              have xb : w5.cell? ⟨g, i, none⟩ = some (.bool true) := by
                have := hbown5.cells (g := g) rfl i (.bool true) (by rw [HBS.out, List.map_append, List.getElem?_append_right (by simp [bitsB_len])]; simp [bitsB_len, HB.out])
                rwa [show (⟨g, 0, none⟩ : Addr).add i = ⟨g, i, none⟩ by unfold Addr.add; split <;> simp_all] at this
              have HBO := Lib.hid hbown5
              have HBN := Lib.hid hno'
              clear hgrow hne2 hown' hown3 hbown3 hbno3 hbel3 hbown5 hno'
              go_wp2_with fail
              go_roundw
              case rel => exact ⟨i + 1, t', by omega, by go_num, rfl, ht2, Lib.hid (by have := htn.out; rw [if_pos HB.out] at this; exact this), hown5, Lib.hid (fun h => by omega), HBO, HBN, hbel5, by rw [FN.out]⟩
              case measure => simp [intOf]; omega
            · rw [if_neg hb] at hbit
              have HB := Lib.hid (show p.testBit i = false by simpa using hb)
              clear hb
              go_wp2_with ((at_builtin; refine wpList_append_ints rfl _ _ 22 rfl w1.heap.size 3 i1 (.int .i64 0) 8 Tryz.underlying22 hi1 hy0 hy1 hy2 rfl _ i _ rfl (hown.out.alloc _) _ [(x : Int)] rfl (ints_one wr (x : Int) 3 rfl) (i + 1) rfl (by unfold maxLen; omega) (by omega) (by have := hbel.out.size; simp; omega) ?_))
              intro Ao co w3 hown' hgrow
              have hbel3 := Lib.hid (K.Below.grown (hbel.out.alloc hbel.out.size _) hgrow (fun q hq => (hown.out.lt q hq).1) (by have := hbel.out.size; simp; omega))
              have hne := own_ne (hown.out.alloc (.cells #[.int .i64 (x : Int)] 3)) h0 (noint_alloc hbown.out hbno.out _)
              have hbown3 := Lib.hid ((hbown.out.alloc _).kept hgrow hne)
              have hbno3 := Lib.hid ((noint_alloc hbown.out hbno.out _).grown hgrow (fun g hg => ((hbown.out.alloc (.cells #[.int .i64 (x : Int)] 3)).lt g hg).2) hne)
              have hown3 := Lib.hid (show w3.ownsRow w1.heap.size 3 1 (.slice Ao (i + 1) co) (i + 1) (vs .i64 ((ordL lo k (i + 1)).map Int.ofNat)) by rw [HOS.out, List.map_append, HX.out]; exact hown')
              clear hgrow hne hown' hown hbown hbno hbel h0
              go_wp2_with fail
              refine (hP2.out _).mono ?_
              rintro e w4 ⟨rfl, rfl⟩
              go_wp2_with ((at_builtin; refine wpList_append_noint rfl _ _ 26 rfl w1.heap.size 4 i0 (.bool false) 1 1 Tryz.underlying26 hi hz0 hz1 hz2 rfl (by decide) _ _ _ rfl (hbown3.out.alloc _) (noint_alloc hbown3.out hbno3.out _) zb_no ⟨w3.heap.size, 0, none⟩ 1 1 [.bool false] rfl rfl ?c1 ?c2 ?c3 (by decide) ?c4 ?c5 ?c6 ?_))
              case c1 => intro t u hu; rcases t with _ | t <;> simp at hu <;> subst hu <;> simp [Addr.add]
              case c2 => intro u hu; simp at hu; subst hu; rfl
              case c3 => intro u hu; simp at hu; subst hu; simp
              case c4 => unfold maxLen; omega
              case c5 => omega
              case c6 => simp; have := hbel3.out.size; omega
              intro v' w5 hown' hgrow hno'
              have hbel5 := Lib.hid (K.Below.grown (hbel3.out.alloc hbel3.out.size _) hgrow (fun q hq => (hbown3.out.lt q hq).1) (by have := hbel3.out.size; simp; omega))
              have hbown5 : w5.ownsRow w1.heap.size 4 1 v' (i + 1) ((bitsB p (i + 1)).map Value.bool) := by rw [HBS.out, HB.out, List.map_append]; exact hown'
              have hne2 : Value.ownBlock (.slice Ao (i + 1) co) = none ∨ Value.ownBlock (.slice Ao (i + 1) co) ≠ _ := (own_ne_symm (own_ne (hown3.out.alloc (.cells #[.bool false] 4)) (fun h => by omega) (noint_alloc hbown3.out hbno3.out _)))
              have hown5 := Lib.hid ((hown3.out.alloc _).kept hgrow hne2)
              obtain ⟨g, cap, rfl, hgb, hgc, hgm⟩ : ∃ g cap, v' = .slice (some ⟨g, 0, none⟩) (i + 1) cap ∧ w1.heap.size ≤ g ∧ i + 1 ≤ cap ∧ cap ≤ maxLen := by
                rcases hbown5.2 with ⟨-, h0⟩ | ⟨g, cap, cur, rfl, hb, -, hc, hm, -⟩
                · omega
                · exact ⟨g, cap, rfl, hb, hc, hm⟩
              have xb : w5.cell? ⟨g, i, none⟩ = some (.bool false) := by
                have := hbown5.cells (g := g) rfl i (.bool false) (by rw [HBS.out, List.map_append, List.getElem?_append_right (by simp [bitsB_len])]; simp [bitsB_len, HB.out])
                rwa [show (⟨g, 0, none⟩ : Addr).add i = ⟨g, i, none⟩ by unfold Addr.add; split <;> simp_all] at this
              have HBO := Lib.hid hbown5
              have HBN := Lib.hid hno'
              clear hgrow hne2 hown' hown3 hbown3 hbno3 hbel3 hbown5 hno'
              go_wp2_with fail
              go_roundw
              case rel => exact ⟨i + 1, t, by omega, by go_num, rfl, ht16, Lib.hid (by have := htn.out; rw [if_neg (by rw [HB.out]; decide)] at this; exact this), hown5, Lib.hid (fun h => by omega), HBO, HBN, hbel5, by rw [FN.out]⟩
              case measure => simp [intOf]; omega
      · have HX := Lib.hid (show ordX lo k i = i by unfold ordX; rw [if_neg hil])
        go_wp2_with fail
        go_loopw [19, 16] (fun j f wr' => ∃ u : Nat, u ≤ i ∧ j = .int .i64 u ∧ f = .bool (decide ((ordL lo k i).Nodup ∧ ∀ t, t < u → (ordL lo k i).getD t 0 ≠ i)) ∧ wr' = wr) (fun j _ _ => i - (intOf j).toNat)
        case atStart => exact ⟨0, by omega, rfl, by simp, rfl⟩
        case round =>
          obtain ⟨u, hu, rfl, rfl, rfl⟩ := hrel
          by_cases hui : u < i
          · obtain ⟨g, cg, eg, hcu⟩ := HCO.out u hui
            injection eg with eg _ _
            subst eg
            obtain ⟨a, ha⟩ : ∃ a, (ordL lo k i).getD u 0 = a := ⟨_, rfl⟩
            rw [ha] at hcu
            by_cases hF : (ordL lo k i).Nodup ∧ ∀ t, t < u → (ordL lo k i).getD t 0 ≠ i
            · rw [decide_eq_true hF]
              by_cases hax : a = i
              · have t1 : ((a : Int) != (i : Int)) = false := by rw [hax]; simp
                have hN := Lib.hid (show decide ((ordL lo k i).Nodup ∧ ∀ t, t < u + 1 → (ordL lo k i).getD t 0 ≠ i) = false from decide_eq_false (fun h => h.2 u (Nat.lt_succ_self _) (by rw [ha, hax])))
                clear hF ha hax
                go_wp2_with fail
                go_roundw
                case rel => exact ⟨u + 1, by omega, by go_num, by rw [hN.out], trivial⟩
                case measure => simp [intOf]; omega
              · have t1 : ((a : Int) != (i : Int)) = true := bne_iff_ne.2 (by omega)
                have hN := Lib.hid (show decide ((ordL lo k i).Nodup ∧ ∀ t, t < u + 1 → (ordL lo k i).getD t 0 ≠ i) = true from decide_eq_true ⟨hF.1, fun t ht => by
                  by_cases e : t = u
                  · subst e; rw [ha]; exact hax
                  · exact hF.2 t (by omega)⟩)
                clear hF ha hax
                go_wp2_with fail
                go_roundw
                case rel => exact ⟨u + 1, by omega, by go_num, by rw [hN.out], trivial⟩
                case measure => simp [intOf]; omega
            · rw [decide_eq_false hF]
              have hN := Lib.hid (show decide ((ordL lo k i).Nodup ∧ ∀ t, t < u + 1 → (ordL lo k i).getD t 0 ≠ i) = false from decide_eq_false (fun h => hF ⟨h.1, fun t ht => h.2 t (by omega)⟩))
              clear hF ha
              go_wp2_with fail
              go_roundw
              case rel => exact ⟨u + 1, by omega, by go_num, by rw [hN.out], trivial⟩
              case measure => simp [intOf]; omega
          · obtain rfl : i = u := by omega
            have FN := Lib.hid (show decide ((ordL lo k i).Nodup ∧ ∀ t, t < i → (ordL lo k i).getD t 0 ≠ i) = decide (ordL lo k (i + 1)).Nodup from decide_eq_decide.2 (by rw [HOS.out, HX.out, nodup_snoc, ordL_len]))
            generalize decide ((ordL lo k i).Nodup ∧ ∀ t, t < i → (ordL lo k i).getD t 0 ≠ i) = fin at *
            clear hui hu
            by_cases hb : p.testBit i = true
            · rw [if_pos hb] at hbit
              have HB := Lib.hid hb
              clear hb
              go_wp2_with ((at_builtin; refine wpList_append_ints rfl _ _ 22 rfl w1.heap.size 3 i1 (.int .i64 0) 8 Tryz.underlying22 hi1 hy0 hy1 hy2 rfl _ i _ rfl (hown.out.alloc _) _ [(i : Int)] rfl (ints_one wr (i : Int) 3 rfl) (i + 1) rfl (by unfold maxLen; omega) (by omega) (by have := hbel.out.size; simp; omega) ?_))
              intro Ao co w3 hown' hgrow
              have hbel3 := Lib.hid (K.Below.grown (hbel.out.alloc hbel.out.size _) hgrow (fun q hq => (hown.out.lt q hq).1) (by have := hbel.out.size; simp; omega))
              have hne := own_ne (hown.out.alloc (.cells #[.int .i64 (i : Int)] 3)) h0 (noint_alloc hbown.out hbno.out _)
              have hbown3 := Lib.hid ((hbown.out.alloc _).kept hgrow hne)
              have hbno3 := Lib.hid ((noint_alloc hbown.out hbno.out _).grown hgrow (fun g hg => ((hbown.out.alloc (.cells #[.int .i64 (i : Int)] 3)).lt g hg).2) hne)
              have hown3 := Lib.hid (show w3.ownsRow w1.heap.size 3 1 (.slice Ao (i + 1) co) (i + 1) (vs .i64 ((ordL lo k (i + 1)).map Int.ofNat)) by rw [HOS.out, List.map_append, HX.out]; exact hown')
              clear hgrow hne hown' hown hbown hbno hbel h0
              go_wp2_with fail
              refine (hP2.out _).mono ?_
              rintro e w4 ⟨rfl, rfl⟩
              go_wp2_with ((at_builtin; refine wpList_append_noint rfl _ _ 26 rfl w1.heap.size 4 i0 (.bool false) 1 1 Tryz.underlying26 hi hz0 hz1 hz2 rfl (by decide) _ _ _ rfl (hbown3.out.alloc _) (noint_alloc hbown3.out hbno3.out _) zb_no ⟨w3.heap.size, 0, none⟩ 1 1 [.bool true] rfl rfl ?c1 ?c2 ?c3 (by decide) ?c4 ?c5 ?c6 ?_))
              case c1 => intro t u hu; rcases t with _ | t <;> simp at hu <;> subst hu <;> simp [Addr.add]
              case c2 => intro u hu; simp at hu; subst hu; rfl
              case c3 => intro u hu; simp at hu; subst hu; simp
              case c4 => unfold maxLen; omega
              case c5 => omega
              case c6 => simp; have := hbel3.out.size; omega
              intro v' w5 hown' hgrow hno'
              have hbel5 := Lib.hid (K.Below.grown (hbel3.out.alloc hbel3.out.size _) hgrow (fun q hq => (hbown3.out.lt q hq).1) (by have := hbel3.out.size; simp; omega))
              have hbown5 : w5.ownsRow w1.heap.size 4 1 v' (i + 1) ((bitsB p (i + 1)).map Value.bool) := by rw [HBS.out, HB.out, List.map_append]; exact hown'
              have hne2 : Value.ownBlock (.slice Ao (i + 1) co) = none ∨ Value.ownBlock (.slice Ao (i + 1) co) ≠ _ := (own_ne_symm (own_ne (hown3.out.alloc (.cells #[.bool true] 4)) (fun h => by omega) (noint_alloc hbown3.out hbno3.out _)))
              have hown5 := Lib.hid ((hown3.out.alloc _).kept hgrow hne2)
              obtain ⟨g, cap, rfl, hgb, hgc, hgm⟩ : ∃ g cap, v' = .slice (some ⟨g, 0, none⟩) (i + 1) cap ∧ w1.heap.size ≤ g ∧ i + 1 ≤ cap ∧ cap ≤ maxLen := by
                rcases hbown5.2 with ⟨-, h0⟩ | ⟨g, cap, cur, rfl, hb, -, hc, hm, -⟩
                · omega
                · exact ⟨g, cap, rfl, hb, hc, hm⟩
              have xb : w5.cell? ⟨g, i, none⟩ = some (.bool true) := by
                have := hbown5.cells (g := g) rfl i (.bool true) (by rw [HBS.out, List.map_append, List.getElem?_append_right (by simp [bitsB_len])]; simp [bitsB_len, HB.out])
                rwa [show (⟨g, 0, none⟩ : Addr).add i = ⟨g, i, none⟩ by unfold Addr.add; split <;> simp_all] at this
              have HBO := Lib.hid hbown5
              have HBN := Lib.hid hno'
              clear hgrow hne2 hown' hown3 hbown3 hbno3 hbel3 hbown5 hno'
              go_wp2_with fail
              go_roundw
              case rel => exact ⟨i + 1, t', by omega, by go_num, rfl, ht2, Lib.hid (by have := htn.out; rw [if_pos HB.out] at this; exact this), hown5, Lib.hid (fun h => by omega), HBO, HBN, hbel5, by rw [FN.out]⟩
              case measure => simp [intOf]; omega
            · rw [if_neg hb] at hbit
              have HB := Lib.hid (show p.testBit i = false by simpa using hb)
              clear hb
              go_wp2_with ((at_builtin; refine wpList_append_ints rfl _ _ 22 rfl w1.heap.size 3 i1 (.int .i64 0) 8 Tryz.underlying22 hi1 hy0 hy1 hy2 rfl _ i _ rfl (hown.out.alloc _) _ [(i : Int)] rfl (ints_one wr (i : Int) 3 rfl) (i + 1) rfl (by unfold maxLen; omega) (by omega) (by have := hbel.out.size; simp; omega) ?_))
              intro Ao co w3 hown' hgrow
              have hbel3 := Lib.hid (K.Below.grown (hbel.out.alloc hbel.out.size _) hgrow (fun q hq => (hown.out.lt q hq).1) (by have := hbel.out.size; simp; omega))
              have hne := own_ne (hown.out.alloc (.cells #[.int .i64 (i : Int)] 3)) h0 (noint_alloc hbown.out hbno.out _)
              have hbown3 := Lib.hid ((hbown.out.alloc _).kept hgrow hne)
              have hbno3 := Lib.hid ((noint_alloc hbown.out hbno.out _).grown hgrow (fun g hg => ((hbown.out.alloc (.cells #[.int .i64 (i : Int)] 3)).lt g hg).2) hne)
              have hown3 := Lib.hid (show w3.ownsRow w1.heap.size 3 1 (.slice Ao (i + 1) co) (i + 1) (vs .i64 ((ordL lo k (i + 1)).map Int.ofNat)) by rw [HOS.out, List.map_append, HX.out]; exact hown')
              clear hgrow hne hown' hown hbown hbno hbel h0
              go_wp2_with fail
              refine (hP2.out _).mono ?_
              rintro e w4 ⟨rfl, rfl⟩
              go_wp2_with ((at_builtin; refine wpList_append_noint rfl _ _ 26 rfl w1.heap.size 4 i0 (.bool false) 1 1 Tryz.underlying26 hi hz0 hz1 hz2 rfl (by decide) _ _ _ rfl (hbown3.out.alloc _) (noint_alloc hbown3.out hbno3.out _) zb_no ⟨w3.heap.size, 0, none⟩ 1 1 [.bool false] rfl rfl ?c1 ?c2 ?c3 (by decide) ?c4 ?c5 ?c6 ?_))
              case c1 => intro t u hu; rcases t with _ | t <;> simp at hu <;> subst hu <;> simp [Addr.add]
              case c2 => intro u hu; simp at hu; subst hu; rfl
              case c3 => intro u hu; simp at hu; subst hu; simp
              case c4 => unfold maxLen; omega
              case c5 => omega
              case c6 => simp; have := hbel3.out.size; omega
              intro v' w5 hown' hgrow hno'
              have hbel5 := Lib.hid (K.Below.grown (hbel3.out.alloc hbel3.out.size _) hgrow (fun q hq => (hbown3.out.lt q hq).1) (by have := hbel3.out.size; simp; omega))
              have hbown5 : w5.ownsRow w1.heap.size 4 1 v' (i + 1) ((bitsB p (i + 1)).map Value.bool) := by rw [HBS.out, HB.out, List.map_append]; exact hown'
              have hne2 : Value.ownBlock (.slice Ao (i + 1) co) = none ∨ Value.ownBlock (.slice Ao (i + 1) co) ≠ _ := (own_ne_symm (own_ne (hown3.out.alloc (.cells #[.bool false] 4)) (fun h => by omega) (noint_alloc hbown3.out hbno3.out _)))
              have hown5 := Lib.hid ((hown3.out.alloc _).kept hgrow hne2)
              obtain ⟨g, cap, rfl, hgb, hgc, hgm⟩ : ∃ g cap, v' = .slice (some ⟨g, 0, none⟩) (i + 1) cap ∧ w1.heap.size ≤ g ∧ i + 1 ≤ cap ∧ cap ≤ maxLen := by
                rcases hbown5.2 with ⟨-, h0⟩ | ⟨g, cap, cur, rfl, hb, -, hc, hm, -⟩
                · omega
                · exact ⟨g, cap, rfl, hb, hc, hm⟩
              have xb : w5.cell? ⟨g, i, none⟩ = some (.bool false) := by
                have := hbown5.cells (g := g) rfl i (.bool false) (by rw [HBS.out, List.map_append, List.getElem?_append_right (by simp [bitsB_len])]; simp [bitsB_len, HB.out])
                rwa [show (⟨g, 0, none⟩ : Addr).add i = ⟨g, i, none⟩ by unfold Addr.add; split <;> simp_all] at this
              have HBO := Lib.hid hbown5
              have HBN := Lib.hid hno'
              clear hgrow hne2 hown' hown3 hbown3 hbno3 hbel3 hbown5 hno'
              go_wp2_with fail
              go_roundw
              case rel => exact ⟨i + 1, t, by omega, by go_num, rfl, ht16, Lib.hid (by have := htn.out; rw [if_neg (by rw [HB.out]; decide)] at this; exact this), hown5, Lib.hid (fun h => by omega), HBO, HBN, hbel5, by rw [FN.out]⟩
              case measure => simp [intOf]; omega
    · obtain rfl : i = k := by omega
      obtain ⟨v, hv⟩ : ∃ v, rowQ l (tbm n odd) = v := ⟨_, rfl⟩
      have hvl : v.length = tbm n odd := by rw [← hv]; exact rowQ_len
      have htw : ∀ q, q ∈ v → Twelve q := by rw [← hv]; exact rowQ_twelve
      obtain ⟨L, hL⟩ : ∃ L, v.length = L := ⟨_, rfl⟩
      have hr1 := R1.out
      rw [hv, hL] at hr1
      have V := Lib.hid (hr1.below (fun _ _ _ _ h => h.below hbel.out (Nat.le_refl _)) hbel.out (Nat.le_refl _))
      have B := Lib.hid (B1.out.trans (hbel.out.mono B1.out.size))
      have F := Lib.hid (HF.out.below B.out (Nat.le_refl _))
      have I := Lib.hid (own_ints hown.out (by simp [ordL_len]))
      have H := Lib.hid (own_bools (l := bitsB p i) (by rw [bitsB_len]; exact hbown.out))
      have HV := Lib.hid (And.intro htw hvl)
      have hsh : ∀ q, q ∈ v → Short q := fun q hq => (htw q hq).short
      have HSH := Lib.hid hsh
      have HTB := Lib.hid htb.out
      have hvl2 : v.length ≤ 4096 := by
        rw [hvl]; unfold tbm; rw [HK.out]
        have : 2 ^ i ≤ 16 := Nat.le_trans (Nat.pow_le_pow_right (by decide) hkl.2) (by decide)
        split <;> omega
      have e5 : (rowQ l (tbm n odd)).length = L := by rw [hv, hL]
      rw [e5]
      rw [hL] at hvl hvl2
      have HL := Lib.hid hL
      have HLV := Lib.hid hvl
      have HC := Lib.hid (fun wd => rcolumns_any L wd)
      clear hv hr1 R1 B1 htb hown hbown h0' hbno hbel hP1 HR2 hlt hik hsh htw hL e5 HF hvl
      by_cases ho : odd % 9 = 8
      · have hLp : L = 2 ^ i + 1 := by have := HLV.out; unfold tbm at this; rw [HK.out, if_pos ho] at this; exact this
        have hcL : cols L = 0 := by rw [hLp]; exact cols_odd i (by omega) hkl.1
        have hC := HC.out
        rw [hcL] at hC
        replace hC := Lib.hid hC
        have HCL := Lib.hid hcL
        have hvl3 : v.length ≤ 4096 := by rw [HL.out]; exact hvl2
        have HV3 := Lib.hid hvl3
        have tne : ((0 : Int) != (i : Int)) = true := bne_iff_ne.2 (by omega)
        obtain ⟨AH, cH, eH, -⟩ := H.out
        subst eH
        rw [bitsB_len] at H ⊢
        obtain ⟨AI, cI, eI, -⟩ := I.out
        subst eI
        rw [List.length_map, ordL_len] at I ⊢
        clear hLp hcL HC ho hvl3
        go_wp2_with fail
        refine (inRow_any _ v _ V.out HSH.out HV3.out).mono ?_
        rintro e w10 ⟨rA, rfl, hr, hb⟩
        obtain ⟨RA, dA, rfl, -, -, -⟩ := hr.at
        clear hr
        rw [HL.out]
        have V_1 := Lib.hid (V.out.below (fun _ _ _ _ h => h.below hb (Nat.le_refl _)) hb (Nat.le_refl _))
        have B_1 := Lib.hid (B.out.trans (hb.mono B.out.size))
        have F_1 := Lib.hid (F.out.below hb (Nat.le_refl _))
        clear hb V B F
        go_wp2_with fail
        refine (shares_bad _ L _ _ HCL.out).mono ?_
        rintro e w11 ⟨rfl, rfl⟩
        go_wp2_with fail
        refine (inRow_any _ v _ V_1.out HSH.out HV3.out).mono ?_
        rintro e w12 ⟨rB, rfl, hr, hb⟩
        obtain ⟨RB, dB, rfl, -, -, -⟩ := hr.at
        clear hr
        rw [HL.out]
        have V_2 := Lib.hid (V_1.out.below (fun _ _ _ _ h => h.below hb (Nat.le_refl _)) hb (Nat.le_refl _))
        have B_2 := Lib.hid (B_1.out.trans (hb.mono B_1.out.size))
        have F_2 := Lib.hid (F_1.out.below hb (Nat.le_refl _))
        clear hb V_1 B_1 F_1
        go_wp2_with fail
        refine (worth_bad _ _ L i _ _ _ (Or.inl HCL.out)).mono ?_
        rintro e w13 ⟨rfl, hb⟩
        have V_3 := Lib.hid (V_2.out.below (fun _ _ _ _ h => h.below hb (Nat.le_refl _)) hb (Nat.le_refl _))
        have B_3 := Lib.hid (B_2.out.trans (hb.mono B_2.out.size))
        have F_3 := Lib.hid (F_2.out.below hb (Nat.le_refl _))
        clear hb V_2 B_2 F_2
        have hb : Below (w13).heap.size (w13) (w13.alloc (.cells #[.bool false, .slice none 0 0, .slice none 0 0] 40)) := by (repeat (first | assumption | exact Below.refl _ _ | refine Below.drew ?_ | refine Below.setCell ?_ (by simp <;> omega) _ | refine Below.alloc ?_ (by simp <;> omega) _))
        have V_4 := Lib.hid (V_3.out.below (fun _ _ _ _ h => h.below hb (Nat.le_refl _)) hb (Nat.le_refl _))
        have B_4 := Lib.hid (B_3.out.trans (hb.mono B_3.out.size))
        have F_4 := Lib.hid (F_3.out.below hb (Nat.le_refl _))
        clear hb V_3 B_3 F_3
        have X := Lib.hid (Blk.mk w13 w13.heap.size rfl [.bool false, .slice none 0 0, .slice none 0 0] 40)
        go_wp2_with fail
        refine (inRow_any _ v _ V_4.out HSH.out HV3.out).mono ?_
        rintro e w14 ⟨rC, rfl, hr, hb⟩
        obtain ⟨RC, dC, rfl, -, -, -⟩ := hr.at
        clear hr
        rw [HL.out]
        have V_5 := Lib.hid (V_4.out.below (fun _ _ _ _ h => h.below hb (Nat.le_refl _)) hb (Nat.le_refl _))
        have B_5 := Lib.hid (B_4.out.trans (hb.mono B_4.out.size))
        have F_5 := Lib.hid (F_4.out.below hb (Nat.le_refl _))
        have X_5 := Lib.hid (X.out.below hb X.out.lt)
        clear hb V_4 B_4 F_4 X
        go_wp2_with fail
        refine (turns_bad _ _ L i _ _ _ HCL.out).mono ?_
        rintro e w15 ⟨rfl, hb⟩
        have V_6 := Lib.hid (V_5.out.below (fun _ _ _ _ h => h.below hb (Nat.le_refl _)) hb (Nat.le_refl _))
        have B_6 := Lib.hid (B_5.out.trans (hb.mono B_5.out.size))
        have F_6 := Lib.hid (F_5.out.below hb (Nat.le_refl _))
        have X_6 := Lib.hid (X_5.out.below hb X_5.out.lt)
        clear hb V_5 B_5 F_5 X_5
        go_wp2_with fail
        refine (known_any _ F_6.out).mono ?_
        rintro e w16 ⟨rfl, hb⟩
        have V_7 := Lib.hid (V_6.out.below (fun _ _ _ _ h => h.below hb (Nat.le_refl _)) hb (Nat.le_refl _))
        have B_7 := Lib.hid (B_6.out.trans (hb.mono B_6.out.size))
        have F_7 := Lib.hid (F_6.out.below hb (Nat.le_refl _))
        have X_7 := Lib.hid (X_6.out.below hb X_6.out.lt)
        clear hb V_6 B_6 F_6 X_6
        go_wp2_with fail
        refine (hC.out _).mono ?_
        rintro e w17 ⟨rfl, rfl⟩
        have xa := X_7.out.c0
        have xb := X_7.out.c1
        have xc := X_7.out.c2
        go_wp2_with fail
        refine (sign_zero _).mono ?_
        rintro e w18 ⟨rfl, hb⟩
        clear xa xb xc
        have V_8 := Lib.hid (V_7.out.below (fun _ _ _ _ h => h.below hb (Nat.le_refl _)) hb (Nat.le_refl _))
        have B_8 := Lib.hid (B_7.out.trans (hb.mono B_7.out.size))
        have F_8 := Lib.hid (F_7.out.below hb (Nat.le_refl _))
        have X_8 := Lib.hid (X_7.out.below hb X_7.out.lt)
        clear hb V_7 B_7 F_7 X_7
        go_wp2_with fail
        go_ret
        exact ⟨rfl, B_8.out⟩
      · have hLp : L = 2 ^ i := by have := HLV.out; unfold tbm at this; rw [HK.out, if_neg ho] at this; exact this
        have hcL : cols L = i := by rw [hLp]; exact cols_pow hkl.1 (by omega)
        have hcv : cols v.length = i := by rw [HL.out]; exact hcL
        obtain ⟨z, hTab⟩ := tab_of HV.out.1
        have HFIT := Lib.hid (tab_fit hTab (by decide) (show i ≤ 10 by omega))
        have HRF := Lib.hid (tab_rfit hTab hkl.2)
        have HSS := Lib.hid (tab_shs hTab hkl.1 hkl.2)
        have hi0 : i ≠ 0 := by omega
        have HLP := Lib.hid hLp
        have HCV := Lib.hid hcv
        have hC := HC.out
        rw [hcL] at hC
        replace hC := Lib.hid hC
        have hvl3 : v.length ≤ 4096 := by rw [HL.out]; exact hvl2
        have HV3 := Lib.hid hvl3
        have tne : ((i : Int) != (i : Int)) = false := by simp
        clear hLp hcL hcv HC ho hvl3
        by_cases hnd : (ordL lo i i).Nodup
        · rw [decide_eq_true hnd]
          have HT := Lib.hid (show tgo v (ordL lo i i) 0 (List.replicate i 0) = some (tset v (ordL lo i i) 0 (List.replicate i 0)) from tgo_some v _ 0 _ hnd (fun c hc => ⟨by rw [List.length_replicate]; exact ordL_lt c hc, by simp⟩))
          have HH := Lib.hid (hav_all hkl.2 (ordL_len lo i i) ordL_lt hnd)
          clear hnd
          go_wp2_with fail
          refine (inRow_any _ v _ V.out HSH.out HV3.out).mono ?_
          rintro e w10 ⟨rA, rfl, hr, hb⟩
          have V_1 := Lib.hid (V.out.below (fun _ _ _ _ h => h.below hb (Nat.le_refl _)) hb (Nat.le_refl _))
          have B_1 := Lib.hid (B.out.trans (hb.mono B.out.size))
          have F_1 := Lib.hid (F.out.below hb (Nat.le_refl _))
          have I_1 := Lib.hid (I.out.below hb (Nat.le_refl _))
          have H_1 := Lib.hid (H.out.below hb (Nat.le_refl _))
          clear hb V B F I H
          have A0 := Lib.hid hr
          clear hr
          go_wp2_with fail
          refine (shares_ok _ v i _ A0.out HCV.out hi0 F_1.out HFIT.out).mono ?_
          rintro e w11 ⟨rS, rfl, hr, hb⟩
          have V_2 := Lib.hid (V_1.out.below (fun _ _ _ _ h => h.below hb (Nat.le_refl _)) hb (Nat.le_refl _))
          have B_2 := Lib.hid (B_1.out.trans (hb.mono B_1.out.size))
          have F_2 := Lib.hid (F_1.out.below hb (Nat.le_refl _))
          have I_2 := Lib.hid (I_1.out.below hb (Nat.le_refl _))
          have H_2 := Lib.hid (H_1.out.below hb (Nat.le_refl _))
          have A0_2 := Lib.hid (A0.out.below (fun _ _ _ _ h => h.below hb (Nat.le_refl _)) hb (Nat.le_refl _))
          clear hb V_1 B_1 F_1 I_1 H_1 A0
          have S := Lib.hid hr
          clear hr
          clear A0_2
          go_wp2_with fail
          refine (inRow_any _ v _ V_2.out HSH.out HV3.out).mono ?_
          rintro e w12 ⟨rB, rfl, hr, hb⟩
          have V_3 := Lib.hid (V_2.out.below (fun _ _ _ _ h => h.below hb (Nat.le_refl _)) hb (Nat.le_refl _))
          have B_3 := Lib.hid (B_2.out.trans (hb.mono B_2.out.size))
          have F_3 := Lib.hid (F_2.out.below hb (Nat.le_refl _))
          have I_3 := Lib.hid (I_2.out.below hb (Nat.le_refl _))
          have H_3 := Lib.hid (H_2.out.below hb (Nat.le_refl _))
          have S_3 := Lib.hid (S.out.below (fun _ _ _ _ h => h.below hb (Nat.le_refl _)) hb (Nat.le_refl _))
          clear hb V_2 B_2 F_2 I_2 H_2 S
          have A0 := Lib.hid hr
          clear hr
          go_wp2_with fail
          refine (worth_any _ _ v (bitsB p i) i _ A0.out H_3.out HCV.out hi0 (bitsB_len p i)).mono ?_
          rintro e w13 ⟨b5, v5, v6, t5, rfl, ht5, htb5, q5, hb⟩
          obtain rfl : t = t5 := Nat.eq_of_testBit_eq (fun j => by rw [HTB.out, htb5]; by_cases hj : j < i <;> simp [hj, bitsB, List.getD_eq_getElem?_getD])
          obtain ⟨A5, k5, c5, A6, k6, c6, rfl, rfl⟩ := q5.slices
          clear htb5
          have V_4 := Lib.hid (V_3.out.below (fun _ _ _ _ h => h.below hb (Nat.le_refl _)) hb (Nat.le_refl _))
          have B_4 := Lib.hid (B_3.out.trans (hb.mono B_3.out.size))
          have F_4 := Lib.hid (F_3.out.below hb (Nat.le_refl _))
          have I_4 := Lib.hid (I_3.out.below hb (Nat.le_refl _))
          have H_4 := Lib.hid (H_3.out.below hb (Nat.le_refl _))
          have S_4 := Lib.hid (S_3.out.below (fun _ _ _ _ h => h.below hb (Nat.le_refl _)) hb (Nat.le_refl _))
          have A0_4 := Lib.hid (A0.out.below (fun _ _ _ _ h => h.below hb (Nat.le_refl _)) hb (Nat.le_refl _))
          clear hb V_3 B_3 F_3 I_3 H_3 S_3 A0
          clear A0_4
          clear H_4
          have Q5 := Lib.hid q5
          clear q5
          have hb : Below (w13).heap.size (w13) (w13.alloc (.cells #[.bool b5, .slice A5 k5 c5, .slice A6 k6 c6] 40)) := by (repeat (first | assumption | exact Below.refl _ _ | refine Below.drew ?_ | refine Below.setCell ?_ (by simp <;> omega) _ | refine Below.alloc ?_ (by simp <;> omega) _))
          have V_5 := Lib.hid (V_4.out.below (fun _ _ _ _ h => h.below hb (Nat.le_refl _)) hb (Nat.le_refl _))
          have B_5 := Lib.hid (B_4.out.trans (hb.mono B_4.out.size))
          have F_5 := Lib.hid (F_4.out.below hb (Nat.le_refl _))
          have I_5 := Lib.hid (I_4.out.below hb (Nat.le_refl _))
          have S_5 := Lib.hid (S_4.out.below (fun _ _ _ _ h => h.below hb (Nat.le_refl _)) hb (Nat.le_refl _))
          have Q5_5 := Lib.hid (Q5.out.below hb (Nat.le_refl _))
          clear hb V_4 B_4 F_4 I_4 S_4 Q5
          have X := Lib.hid (Blk.mk w13 w13.heap.size rfl [.bool b5, .slice A5 k5 c5, .slice A6 k6 c6] 40)
          go_wp2_with fail
          refine (inRow_any _ v _ V_5.out HSH.out HV3.out).mono ?_
          rintro e w14 ⟨rC, rfl, hr, hb⟩
          have V_6 := Lib.hid (V_5.out.below (fun _ _ _ _ h => h.below hb (Nat.le_refl _)) hb (Nat.le_refl _))
          have B_6 := Lib.hid (B_5.out.trans (hb.mono B_5.out.size))
          have F_6 := Lib.hid (F_5.out.below hb (Nat.le_refl _))
          have I_6 := Lib.hid (I_5.out.below hb (Nat.le_refl _))
          have S_6 := Lib.hid (S_5.out.below (fun _ _ _ _ h => h.below hb (Nat.le_refl _)) hb (Nat.le_refl _))
          have Q5_6 := Lib.hid (Q5_5.out.below hb (Nat.le_refl _))
          have X_6 := Lib.hid (X.out.below hb X.out.lt)
          clear hb V_5 B_5 F_5 I_5 S_5 Q5_5 X
          have A0 := Lib.hid hr
          clear hr
          go_wp2_with fail
          refine (turns_ok _ _ v (ordL lo i i) i _ _ A0.out I_6.out HCV.out hi0 (ordL_len lo i i) HSH.out HT.out).mono ?_
          rintro e w15 ⟨rT, rfl, hr, hb⟩
          have V_7 := Lib.hid (V_6.out.below (fun _ _ _ _ h => h.below hb (Nat.le_refl _)) hb (Nat.le_refl _))
          have B_7 := Lib.hid (B_6.out.trans (hb.mono B_6.out.size))
          have F_7 := Lib.hid (F_6.out.below hb (Nat.le_refl _))
          have I_7 := Lib.hid (I_6.out.below hb (Nat.le_refl _))
          have S_7 := Lib.hid (S_6.out.below (fun _ _ _ _ h => h.below hb (Nat.le_refl _)) hb (Nat.le_refl _))
          have Q5_7 := Lib.hid (Q5_6.out.below hb (Nat.le_refl _))
          have X_7 := Lib.hid (X_6.out.below hb X_6.out.lt)
          have A0_7 := Lib.hid (A0.out.below (fun _ _ _ _ h => h.below hb (Nat.le_refl _)) hb (Nat.le_refl _))
          clear hb V_6 B_6 F_6 I_6 S_6 Q5_6 X_6 A0
          have T := Lib.hid hr
          clear hr
          clear A0_7
          go_wp2_with fail
          refine (known_any _ F_7.out).mono ?_
          rintro e w16 ⟨rfl, hb⟩
          have V_8 := Lib.hid (V_7.out.below (fun _ _ _ _ h => h.below hb (Nat.le_refl _)) hb (Nat.le_refl _))
          have B_8 := Lib.hid (B_7.out.trans (hb.mono B_7.out.size))
          have F_8 := Lib.hid (F_7.out.below hb (Nat.le_refl _))
          have I_8 := Lib.hid (I_7.out.below hb (Nat.le_refl _))
          have S_8 := Lib.hid (S_7.out.below (fun _ _ _ _ h => h.below hb (Nat.le_refl _)) hb (Nat.le_refl _))
          have Q5_8 := Lib.hid (Q5_7.out.below hb (Nat.le_refl _))
          have X_8 := Lib.hid (X_7.out.below hb X_7.out.lt)
          have T_8 := Lib.hid (T.out.below (fun _ _ _ _ h => h.below hb (Nat.le_refl _)) hb (Nat.le_refl _))
          clear hb V_7 B_7 F_7 I_7 S_7 Q5_7 X_7 T
          go_wp2_with fail
          refine (hC.out _).mono ?_
          rintro e w17 ⟨rfl, rfl⟩
          have xa := X_8.out.c0
          have xb := X_8.out.c1
          have xc := X_8.out.c2
          obtain ⟨Av', cv', ev, -, -, hat⟩ := V_8.out.at
          rw [HL.out] at ev hat ht5
          injection ev with ev1 _ ev2
          subst ev1 ev2
          obtain ⟨bv, ov, x3, v7, v8, rfl, hbv, y0, y1, y2, hQ⟩ := hat t ht5
          obtain ⟨A7, k7, c7, A8, k8, c8, rfl, rfl⟩ := hQ.slices
          have ht3 : (t : Int) < (L : Int) := by omega
          have lX : w13.heap.size < w16.heap.size := X_8.out.lt
          clear hat
          have Q7 := Lib.hid hQ
          clear hQ
          have hd16 := (Below.refl w16.heap.size w16).drew
          have VD := Lib.hid (V_8.out.below (fun _ _ _ _ h => h.below hd16 (Nat.le_refl _)) hd16 (Nat.le_refl _))
          clear hd16
          go_upto_region 27 with fail
          go_region_held3 (fun w' => w'.cell? ⟨w13.heap.size, 0, none⟩ = some (Value.bool b5) ∧ w'.cell? ⟨w13.heap.size, 1, none⟩ = some (Value.slice A5 k5 c5) ∧ w'.cell? ⟨w13.heap.size, 2, none⟩ = some (Value.slice A6 k6 c6) ∧ w'.cell? ⟨bv, ov + t * 3, none⟩ = some (Value.bool x3) ∧ w'.cell? ⟨bv, ov + t * 3 + 1, none⟩ = some (Value.slice A7 k7 c7) ∧ w'.cell? ⟨bv, ov + t * 3 + 2, none⟩ = some (Value.slice A8 k8 c8)) (go_keep)
            (first
            | ((go_at_call 16; refine (same_ok _ _ _ _ _ _ _ w19 (Q5_8.out.below hm_20 (Nat.le_refl _)) (HSH.out _ (getD_mem' (by rw [HL.out]; exact ht5))) (Q7.out.below hm_20 (Nat.le_refl _))).mono ?_; rintro e w20 ⟨rfl, hb_20⟩; have hm_21 := Lib.hid (hm_20.trans (hb_20.mono hm_20.size)); have xa_20 : w20.cell? ⟨w13.heap.size, 0, none⟩ = some (Value.bool b5) := (hb_20.cell (p := ⟨w13.heap.size, 0, none⟩) (Nat.lt_of_lt_of_le lX (hm_20.size))).trans xa_19; have xb_20 : w20.cell? ⟨w13.heap.size, 1, none⟩ = some (Value.slice A5 k5 c5) := (hb_20.cell (p := ⟨w13.heap.size, 1, none⟩) (Nat.lt_of_lt_of_le lX (hm_20.size))).trans xb_19; have xc_20 : w20.cell? ⟨w13.heap.size, 2, none⟩ = some (Value.slice A6 k6 c6) := (hb_20.cell (p := ⟨w13.heap.size, 2, none⟩) (Nat.lt_of_lt_of_le lX (hm_20.size))).trans xc_19; have y0_20 : w20.cell? ⟨bv, ov + t * 3, none⟩ = some (Value.bool x3) := (hb_20.cell (p := ⟨bv, ov + t * 3, none⟩) (Nat.lt_of_lt_of_le hbv (hm_20.size))).trans y0_19; have y1_20 : w20.cell? ⟨bv, ov + t * 3 + 1, none⟩ = some (Value.slice A7 k7 c7) := (hb_20.cell (p := ⟨bv, ov + t * 3 + 1, none⟩) (Nat.lt_of_lt_of_le hbv (hm_20.size))).trans y1_19; have y2_20 : w20.cell? ⟨bv, ov + t * 3 + 2, none⟩ = some (Value.slice A8 k8 c8) := (hb_20.cell (p := ⟨bv, ov + t * 3 + 2, none⟩) (Nat.lt_of_lt_of_le hbv (hm_20.size))).trans y2_19))
            | ((go_at_call 14; refine (sameRow_ok _ rD _ _ w18 (S_8.out.below (fun _ _ _ _ h => h.below hm_19 (Nat.le_refl _)) hm_19 (Nat.le_refl _)) HRD.out (shs_short HFIT.out) HSS.out).mono ?_; rintro e w19 ⟨rfl, hb_19⟩; have xa_19 : w19.cell? ⟨w13.heap.size, 0, none⟩ = some (Value.bool b5) := (hb_19.cell (p := ⟨w13.heap.size, 0, none⟩) (Nat.lt_of_lt_of_le lX (hm_19.size))).trans xa_18; have xb_19 : w19.cell? ⟨w13.heap.size, 1, none⟩ = some (Value.slice A5 k5 c5) := (hb_19.cell (p := ⟨w13.heap.size, 1, none⟩) (Nat.lt_of_lt_of_le lX (hm_19.size))).trans xb_18; have xc_19 : w19.cell? ⟨w13.heap.size, 2, none⟩ = some (Value.slice A6 k6 c6) := (hb_19.cell (p := ⟨w13.heap.size, 2, none⟩) (Nat.lt_of_lt_of_le lX (hm_19.size))).trans xc_18; have y0_19 : w19.cell? ⟨bv, ov + t * 3, none⟩ = some (Value.bool x3) := (hb_19.cell (p := ⟨bv, ov + t * 3, none⟩) (Nat.lt_of_lt_of_le hbv (hm_19.size))).trans y0_18; have y1_19 : w19.cell? ⟨bv, ov + t * 3 + 1, none⟩ = some (Value.slice A7 k7 c7) := (hb_19.cell (p := ⟨bv, ov + t * 3 + 1, none⟩) (Nat.lt_of_lt_of_le hbv (hm_19.size))).trans y1_18; have y2_19 : w19.cell? ⟨bv, ov + t * 3 + 2, none⟩ = some (Value.slice A8 k8 c8) := (hb_19.cell (p := ⟨bv, ov + t * 3 + 2, none⟩) (Nat.lt_of_lt_of_le hbv (hm_19.size))).trans y2_18; have hm_20 := hm_19.trans (hb_19.mono hm_19.size)))
            | ((go_at_call 15; refine (rshares_any _ v i _ VD.out (by rw [HL.out]; exact HLP.out) hkl.1 hkl.2 HRF.out).mono ?_; rintro e w18 ⟨rD, rfl, hrD, hb_18⟩; have hm_19 := (Below.refl w16.heap.size w16).drew.trans hb_18; have HRD := Lib.hid hrD; have xa_18 : w18.cell? ⟨w13.heap.size, 0, none⟩ = some (Value.bool b5) := (hb_18.cell (p := ⟨w13.heap.size, 0, none⟩) lX).trans xa; have xb_18 : w18.cell? ⟨w13.heap.size, 1, none⟩ = some (Value.slice A5 k5 c5) := (hb_18.cell (p := ⟨w13.heap.size, 1, none⟩) lX).trans xb; have xc_18 : w18.cell? ⟨w13.heap.size, 2, none⟩ = some (Value.slice A6 k6 c6) := (hb_18.cell (p := ⟨w13.heap.size, 2, none⟩) lX).trans xc; have y0_18 : w18.cell? ⟨bv, ov + t * 3, none⟩ = some (Value.bool x3) := (hb_18.cell (p := ⟨bv, ov + t * 3, none⟩) hbv).trans y0; have y1_18 : w18.cell? ⟨bv, ov + t * 3 + 1, none⟩ = some (Value.slice A7 k7 c7) := (hb_18.cell (p := ⟨bv, ov + t * 3 + 1, none⟩) hbv).trans y1; have y2_18 : w18.cell? ⟨bv, ov + t * 3 + 2, none⟩ = some (Value.slice A8 k8 c8) := (hb_18.cell (p := ⟨bv, ov + t * 3 + 2, none⟩) hbv).trans y2))
            | ((fail)))
          all_goals go_wp2_with fail
          all_goals
            have hrT := T_8.out.below (fun _ _ _ _ h => h.below hm_21.out (Nat.le_refl _)) hm_21.out (Nat.le_refl _)
            have hV2 := V_8.out.below (fun _ _ _ _ h => h.below hm_21.out (Nat.le_refl _)) hm_21.out (Nat.le_refl _)
            have hI2 := I_8.out.below hm_21.out (Nat.le_refl _)
            have HRT := Lib.hid hrT
            have HE := Lib.hid (rturns_any _ _ v (ordL lo i i) i w20 hV2 hI2 (by rw [HL.out]; exact HLP.out) (by omega) (ordL_len lo i i) ordL_lt HH.out HRF.out.sv)
            have HB20 := Lib.hid (B_8.out.trans (hm_21.out.mono B_8.out.size))
            clear hrT hV2 hI2
            refine HE.out.mono ?_
            rintro e w21 ⟨rE, rfl, hrE, -, hb21⟩
            have HSR := Lib.hid (sameRow_ok _ rE _ _ w21 (HRT.out.below (fun _ _ _ _ h => h.below hb21 (Nat.le_refl _)) hb21 (Nat.le_refl _)) hrE (tset_short HRF.out) rfl)
            have HB21 := Lib.hid (HB20.out.trans (hb21.mono HB20.out.size))
            clear hrE hb21
            go_wp2_with fail
            refine HSR.out.mono ?_
            rintro e w22 ⟨rfl, hb22⟩
            go_wp2_with fail
            go_ret
            exact ⟨rfl, HB21.out.trans (hb22.mono HB21.out.size)⟩
        · rw [decide_eq_false hnd]
          have HT := Lib.hid (show tgo v (ordL lo i i) 0 (List.replicate i 0) = none from tgo_none v _ 0 _ (fun h => hnd h.1))
          clear hnd
          go_wp2_with fail
          refine (inRow_any _ v _ V.out HSH.out HV3.out).mono ?_
          rintro e w10 ⟨rA, rfl, hr, hb⟩
          have V_1 := Lib.hid (V.out.below (fun _ _ _ _ h => h.below hb (Nat.le_refl _)) hb (Nat.le_refl _))
          have B_1 := Lib.hid (B.out.trans (hb.mono B.out.size))
          have F_1 := Lib.hid (F.out.below hb (Nat.le_refl _))
          have I_1 := Lib.hid (I.out.below hb (Nat.le_refl _))
          have H_1 := Lib.hid (H.out.below hb (Nat.le_refl _))
          clear hb V B F I H
          have A0 := Lib.hid hr
          clear hr
          go_wp2_with fail
          refine (shares_ok _ v i _ A0.out HCV.out hi0 F_1.out HFIT.out).mono ?_
          rintro e w11 ⟨rS, rfl, hr, hb⟩
          have V_2 := Lib.hid (V_1.out.below (fun _ _ _ _ h => h.below hb (Nat.le_refl _)) hb (Nat.le_refl _))
          have B_2 := Lib.hid (B_1.out.trans (hb.mono B_1.out.size))
          have F_2 := Lib.hid (F_1.out.below hb (Nat.le_refl _))
          have I_2 := Lib.hid (I_1.out.below hb (Nat.le_refl _))
          have H_2 := Lib.hid (H_1.out.below hb (Nat.le_refl _))
          have A0_2 := Lib.hid (A0.out.below (fun _ _ _ _ h => h.below hb (Nat.le_refl _)) hb (Nat.le_refl _))
          clear hb V_1 B_1 F_1 I_1 H_1 A0
          have S := Lib.hid hr
          clear hr
          clear A0_2
          go_wp2_with fail
          refine (inRow_any _ v _ V_2.out HSH.out HV3.out).mono ?_
          rintro e w12 ⟨rB, rfl, hr, hb⟩
          have V_3 := Lib.hid (V_2.out.below (fun _ _ _ _ h => h.below hb (Nat.le_refl _)) hb (Nat.le_refl _))
          have B_3 := Lib.hid (B_2.out.trans (hb.mono B_2.out.size))
          have F_3 := Lib.hid (F_2.out.below hb (Nat.le_refl _))
          have I_3 := Lib.hid (I_2.out.below hb (Nat.le_refl _))
          have H_3 := Lib.hid (H_2.out.below hb (Nat.le_refl _))
          have S_3 := Lib.hid (S.out.below (fun _ _ _ _ h => h.below hb (Nat.le_refl _)) hb (Nat.le_refl _))
          clear hb V_2 B_2 F_2 I_2 H_2 S
          have A0 := Lib.hid hr
          clear hr
          go_wp2_with fail
          refine (worth_any _ _ v (bitsB p i) i _ A0.out H_3.out HCV.out hi0 (bitsB_len p i)).mono ?_
          rintro e w13 ⟨b5, v5, v6, t5, rfl, ht5, htb5, q5, hb⟩
          obtain rfl : t = t5 := Nat.eq_of_testBit_eq (fun j => by rw [HTB.out, htb5]; by_cases hj : j < i <;> simp [hj, bitsB, List.getD_eq_getElem?_getD])
          obtain ⟨A5, k5, c5, A6, k6, c6, rfl, rfl⟩ := q5.slices
          clear htb5
          have V_4 := Lib.hid (V_3.out.below (fun _ _ _ _ h => h.below hb (Nat.le_refl _)) hb (Nat.le_refl _))
          have B_4 := Lib.hid (B_3.out.trans (hb.mono B_3.out.size))
          have F_4 := Lib.hid (F_3.out.below hb (Nat.le_refl _))
          have I_4 := Lib.hid (I_3.out.below hb (Nat.le_refl _))
          have H_4 := Lib.hid (H_3.out.below hb (Nat.le_refl _))
          have S_4 := Lib.hid (S_3.out.below (fun _ _ _ _ h => h.below hb (Nat.le_refl _)) hb (Nat.le_refl _))
          have A0_4 := Lib.hid (A0.out.below (fun _ _ _ _ h => h.below hb (Nat.le_refl _)) hb (Nat.le_refl _))
          clear hb V_3 B_3 F_3 I_3 H_3 S_3 A0
          clear A0_4
          clear H_4
          have Q5 := Lib.hid q5
          clear q5
          have hb : Below (w13).heap.size (w13) (w13.alloc (.cells #[.bool b5, .slice A5 k5 c5, .slice A6 k6 c6] 40)) := by (repeat (first | assumption | exact Below.refl _ _ | refine Below.drew ?_ | refine Below.setCell ?_ (by simp <;> omega) _ | refine Below.alloc ?_ (by simp <;> omega) _))
          have V_5 := Lib.hid (V_4.out.below (fun _ _ _ _ h => h.below hb (Nat.le_refl _)) hb (Nat.le_refl _))
          have B_5 := Lib.hid (B_4.out.trans (hb.mono B_4.out.size))
          have F_5 := Lib.hid (F_4.out.below hb (Nat.le_refl _))
          have I_5 := Lib.hid (I_4.out.below hb (Nat.le_refl _))
          have S_5 := Lib.hid (S_4.out.below (fun _ _ _ _ h => h.below hb (Nat.le_refl _)) hb (Nat.le_refl _))
          have Q5_5 := Lib.hid (Q5.out.below hb (Nat.le_refl _))
          clear hb V_4 B_4 F_4 I_4 S_4 Q5
          have X := Lib.hid (Blk.mk w13 w13.heap.size rfl [.bool b5, .slice A5 k5 c5, .slice A6 k6 c6] 40)
          go_wp2_with fail
          refine (inRow_any _ v _ V_5.out HSH.out HV3.out).mono ?_
          rintro e w14 ⟨rC, rfl, hr, hb⟩
          have V_6 := Lib.hid (V_5.out.below (fun _ _ _ _ h => h.below hb (Nat.le_refl _)) hb (Nat.le_refl _))
          have B_6 := Lib.hid (B_5.out.trans (hb.mono B_5.out.size))
          have F_6 := Lib.hid (F_5.out.below hb (Nat.le_refl _))
          have I_6 := Lib.hid (I_5.out.below hb (Nat.le_refl _))
          have S_6 := Lib.hid (S_5.out.below (fun _ _ _ _ h => h.below hb (Nat.le_refl _)) hb (Nat.le_refl _))
          have Q5_6 := Lib.hid (Q5_5.out.below hb (Nat.le_refl _))
          have X_6 := Lib.hid (X.out.below hb X.out.lt)
          clear hb V_5 B_5 F_5 I_5 S_5 Q5_5 X
          have A0 := Lib.hid hr
          clear hr
          go_wp2_with fail
          refine (turns_dup _ _ v (ordL lo i i) i _ A0.out I_6.out HCV.out hi0 (ordL_len lo i i) HSH.out HT.out).mono ?_
          rintro e w15 ⟨rfl, hb⟩
          have V_7 := Lib.hid (V_6.out.below (fun _ _ _ _ h => h.below hb (Nat.le_refl _)) hb (Nat.le_refl _))
          have B_7 := Lib.hid (B_6.out.trans (hb.mono B_6.out.size))
          have F_7 := Lib.hid (F_6.out.below hb (Nat.le_refl _))
          have I_7 := Lib.hid (I_6.out.below hb (Nat.le_refl _))
          have S_7 := Lib.hid (S_6.out.below (fun _ _ _ _ h => h.below hb (Nat.le_refl _)) hb (Nat.le_refl _))
          have Q5_7 := Lib.hid (Q5_6.out.below hb (Nat.le_refl _))
          have X_7 := Lib.hid (X_6.out.below hb X_6.out.lt)
          have A0_7 := Lib.hid (A0.out.below (fun _ _ _ _ h => h.below hb (Nat.le_refl _)) hb (Nat.le_refl _))
          clear hb V_6 B_6 F_6 I_6 S_6 Q5_6 X_6 A0
          clear A0_7
          go_wp2_with fail
          refine (known_any _ F_7.out).mono ?_
          rintro e w16 ⟨rfl, hb⟩
          have V_8 := Lib.hid (V_7.out.below (fun _ _ _ _ h => h.below hb (Nat.le_refl _)) hb (Nat.le_refl _))
          have B_8 := Lib.hid (B_7.out.trans (hb.mono B_7.out.size))
          have F_8 := Lib.hid (F_7.out.below hb (Nat.le_refl _))
          have I_8 := Lib.hid (I_7.out.below hb (Nat.le_refl _))
          have S_8 := Lib.hid (S_7.out.below (fun _ _ _ _ h => h.below hb (Nat.le_refl _)) hb (Nat.le_refl _))
          have Q5_8 := Lib.hid (Q5_7.out.below hb (Nat.le_refl _))
          have X_8 := Lib.hid (X_7.out.below hb X_7.out.lt)
          clear hb V_7 B_7 F_7 I_7 S_7 Q5_7 X_7
          go_wp2_with fail
          refine (hC.out _).mono ?_
          rintro e w17 ⟨rfl, rfl⟩
          have xa := X_8.out.c0
          have xb := X_8.out.c1
          have xc := X_8.out.c2
          obtain ⟨Av', cv', ev, -, -, hat⟩ := V_8.out.at
          rw [HL.out] at ev hat ht5
          injection ev with ev1 _ ev2
          subst ev1 ev2
          obtain ⟨bv, ov, x3, v7, v8, rfl, hbv, y0, y1, y2, hQ⟩ := hat t ht5
          obtain ⟨A7, k7, c7, A8, k8, c8, rfl, rfl⟩ := hQ.slices
          have ht3 : (t : Int) < (L : Int) := by omega
          have lX : w13.heap.size < w16.heap.size := X_8.out.lt
          clear hat
          have Q7 := Lib.hid hQ
          clear hQ
          have hd16 := (Below.refl w16.heap.size w16).drew
          have VD := Lib.hid (V_8.out.below (fun _ _ _ _ h => h.below hd16 (Nat.le_refl _)) hd16 (Nat.le_refl _))
          clear hd16
          go_upto_region 27 with fail
          go_region_held3 (fun w' => w'.cell? ⟨w13.heap.size, 0, none⟩ = some (Value.bool b5) ∧ w'.cell? ⟨w13.heap.size, 1, none⟩ = some (Value.slice A5 k5 c5) ∧ w'.cell? ⟨w13.heap.size, 2, none⟩ = some (Value.slice A6 k6 c6) ∧ w'.cell? ⟨bv, ov + t * 3, none⟩ = some (Value.bool x3) ∧ w'.cell? ⟨bv, ov + t * 3 + 1, none⟩ = some (Value.slice A7 k7 c7) ∧ w'.cell? ⟨bv, ov + t * 3 + 2, none⟩ = some (Value.slice A8 k8 c8)) (go_keep)
            (first
            | ((go_at_call 16; refine (same_ok _ _ _ _ _ _ _ w19 (Q5_8.out.below hm_20 (Nat.le_refl _)) (HSH.out _ (getD_mem' (by rw [HL.out]; exact ht5))) (Q7.out.below hm_20 (Nat.le_refl _))).mono ?_; rintro e w20 ⟨rfl, hb_20⟩; have hm_21 := Lib.hid (hm_20.trans (hb_20.mono hm_20.size)); have xa_20 : w20.cell? ⟨w13.heap.size, 0, none⟩ = some (Value.bool b5) := (hb_20.cell (p := ⟨w13.heap.size, 0, none⟩) (Nat.lt_of_lt_of_le lX (hm_20.size))).trans xa_19; have xb_20 : w20.cell? ⟨w13.heap.size, 1, none⟩ = some (Value.slice A5 k5 c5) := (hb_20.cell (p := ⟨w13.heap.size, 1, none⟩) (Nat.lt_of_lt_of_le lX (hm_20.size))).trans xb_19; have xc_20 : w20.cell? ⟨w13.heap.size, 2, none⟩ = some (Value.slice A6 k6 c6) := (hb_20.cell (p := ⟨w13.heap.size, 2, none⟩) (Nat.lt_of_lt_of_le lX (hm_20.size))).trans xc_19; have y0_20 : w20.cell? ⟨bv, ov + t * 3, none⟩ = some (Value.bool x3) := (hb_20.cell (p := ⟨bv, ov + t * 3, none⟩) (Nat.lt_of_lt_of_le hbv (hm_20.size))).trans y0_19; have y1_20 : w20.cell? ⟨bv, ov + t * 3 + 1, none⟩ = some (Value.slice A7 k7 c7) := (hb_20.cell (p := ⟨bv, ov + t * 3 + 1, none⟩) (Nat.lt_of_lt_of_le hbv (hm_20.size))).trans y1_19; have y2_20 : w20.cell? ⟨bv, ov + t * 3 + 2, none⟩ = some (Value.slice A8 k8 c8) := (hb_20.cell (p := ⟨bv, ov + t * 3 + 2, none⟩) (Nat.lt_of_lt_of_le hbv (hm_20.size))).trans y2_19))
            | ((go_at_call 14; refine (sameRow_ok _ rD _ _ w18 (S_8.out.below (fun _ _ _ _ h => h.below hm_19 (Nat.le_refl _)) hm_19 (Nat.le_refl _)) HRD.out (shs_short HFIT.out) HSS.out).mono ?_; rintro e w19 ⟨rfl, hb_19⟩; have xa_19 : w19.cell? ⟨w13.heap.size, 0, none⟩ = some (Value.bool b5) := (hb_19.cell (p := ⟨w13.heap.size, 0, none⟩) (Nat.lt_of_lt_of_le lX (hm_19.size))).trans xa_18; have xb_19 : w19.cell? ⟨w13.heap.size, 1, none⟩ = some (Value.slice A5 k5 c5) := (hb_19.cell (p := ⟨w13.heap.size, 1, none⟩) (Nat.lt_of_lt_of_le lX (hm_19.size))).trans xb_18; have xc_19 : w19.cell? ⟨w13.heap.size, 2, none⟩ = some (Value.slice A6 k6 c6) := (hb_19.cell (p := ⟨w13.heap.size, 2, none⟩) (Nat.lt_of_lt_of_le lX (hm_19.size))).trans xc_18; have y0_19 : w19.cell? ⟨bv, ov + t * 3, none⟩ = some (Value.bool x3) := (hb_19.cell (p := ⟨bv, ov + t * 3, none⟩) (Nat.lt_of_lt_of_le hbv (hm_19.size))).trans y0_18; have y1_19 : w19.cell? ⟨bv, ov + t * 3 + 1, none⟩ = some (Value.slice A7 k7 c7) := (hb_19.cell (p := ⟨bv, ov + t * 3 + 1, none⟩) (Nat.lt_of_lt_of_le hbv (hm_19.size))).trans y1_18; have y2_19 : w19.cell? ⟨bv, ov + t * 3 + 2, none⟩ = some (Value.slice A8 k8 c8) := (hb_19.cell (p := ⟨bv, ov + t * 3 + 2, none⟩) (Nat.lt_of_lt_of_le hbv (hm_19.size))).trans y2_18; have hm_20 := hm_19.trans (hb_19.mono hm_19.size)))
            | ((go_at_call 15; refine (rshares_any _ v i _ VD.out (by rw [HL.out]; exact HLP.out) hkl.1 hkl.2 HRF.out).mono ?_; rintro e w18 ⟨rD, rfl, hrD, hb_18⟩; have hm_19 := (Below.refl w16.heap.size w16).drew.trans hb_18; have HRD := Lib.hid hrD; have xa_18 : w18.cell? ⟨w13.heap.size, 0, none⟩ = some (Value.bool b5) := (hb_18.cell (p := ⟨w13.heap.size, 0, none⟩) lX).trans xa; have xb_18 : w18.cell? ⟨w13.heap.size, 1, none⟩ = some (Value.slice A5 k5 c5) := (hb_18.cell (p := ⟨w13.heap.size, 1, none⟩) lX).trans xb; have xc_18 : w18.cell? ⟨w13.heap.size, 2, none⟩ = some (Value.slice A6 k6 c6) := (hb_18.cell (p := ⟨w13.heap.size, 2, none⟩) lX).trans xc; have y0_18 : w18.cell? ⟨bv, ov + t * 3, none⟩ = some (Value.bool x3) := (hb_18.cell (p := ⟨bv, ov + t * 3, none⟩) hbv).trans y0; have y1_18 : w18.cell? ⟨bv, ov + t * 3 + 1, none⟩ = some (Value.slice A7 k7 c7) := (hb_18.cell (p := ⟨bv, ov + t * 3 + 1, none⟩) hbv).trans y1; have y2_18 : w18.cell? ⟨bv, ov + t * 3 + 2, none⟩ = some (Value.slice A8 k8 c8) := (hb_18.cell (p := ⟨bv, ov + t * 3 + 2, none⟩) hbv).trans y2))
            | ((fail)))
          all_goals go_wp2_with fail
          all_goals go_ret
          all_goals exact ⟨rfl, B_8.out.trans (hm_21.out.mono B_8.out.size)⟩

end Go.Proofs.YtjfkniknmkcdcaaGreatDoor
