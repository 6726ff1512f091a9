/- The walk of share's weights. (printed by wip/gen/sc.py) -/
import Derived.Test.YtjfkniknmkcdcaaDoorSb
namespace Go.Proofs.YtjfkniknmkcdcaaDoor
open Go.RowKit K Nu

def fc (i : Nat) : Nat := [1, 1, 2, 6, 24, 120, 720, 5040, 40320, 362880, 3628800].getD i 0
theorem fc_le : ∀ i, i < 11 → 1 ≤ fc i ∧ fc i ≤ 3628800 := by decide
/-- the program's table of factorials -/
def Fac (w : World) : Prop := 0 < w.heap.size ∧ ∀ i, i < 11 → w.cell? ⟨0, i, none⟩ = some (.int .i64 (fc i : Int))
theorem Fac.below {B : Nat} {w w' : World} (h : Fac w) (hb : Below B w w') (hB : w.heap.size ≤ B) : Fac w' :=
  ⟨by have := hb.size; have := h.1; omega, fun i hi => (hb.cell (p := ⟨0, i, none⟩) (by have := h.1; show 0 < B; omega)).trans (h.2 i hi)⟩
/-- in which part of all orders a column comes just behind so many -/
def wt (n k : Nat) : Rat := mkRat ((fc k : Int) * (fc (n - 1 - k) : Int)) (fc n)
def wts (n : Nat) : List Rat := (List.range n).map (wt n)
theorem Tryd.facLen : Tryd.prog.arrayLen 136 = 11 := by kernel_rfl
theorem Tryd.facEl : Tryd.prog.underlying 136 = some (.array (Tryd.prog.arrayLen 136) (Tryd.prog.elem 136)) := by kernel_rfl
theorem Tryd.facSz : (Tryd.prog.info? 2).map (fun i => i.size) = some 1 := by kernel_rfl
theorem Tryd.facIx (i : Nat) (h : i < 11) (wd : World) : (Instr.indexAt 136 (.pointer (some ⟨0, 0, none⟩)) (.int .i64 (i : Int))).run Tryd.prog wd = .ok (.pointer (some ⟨0, i, none⟩)) wd := by
  rw [run_indexAt_array (h := Tryd.facEl), if_pos ⟨by omega, by rw [Tryd.facLen]; omega⟩]
  have h2 := Tryd.facSz
  cases hi : Tryd.prog.info? 2 with
  | none => rw [hi] at h2; cases h2
  | some x =>
    rw [hi] at h2
    simp only [Option.map_some, Option.some.injEq] at h2
    by_cases h0 : i = 0
    · subst h0; simp [sizeOf, typeInfo, hi, h2, go_sem, Addr.add]
    · simp [sizeOf, typeInfo, hi, h2, go_sem, Addr.add, h0]

set_option maxRecDepth 100000 in
set_option maxHeartbeats 8000000 in
theorem weights_any (n : Nat) (w : World) (hn : 1 ≤ n) (hn2 : n ≤ 10) (hF : Fac w) :
    Calls Tryd.prog 67 #[.int .i64 (n : Int)] w fun e w' => ∃ r, e = .returned r ∧ Row3 QV w' r (wts n) ∧ Below w.heap.size w w' := by
  obtain ⟨qs, hqs⟩ : ∃ qs, wts n = qs := ⟨_, rfl⟩
  have hql : qs.length = n := by rw [← hqs]; simp [wts]
  have hqd : ∀ k, k < n → qs.getD k 0 = wt n k := fun k hk => by
    rw [← hqs, List.getD_eq_getElem?_getD]; simp [wts, hk]
  rw [hqs]
  have HL := Lib.hid hql
  have HQD := Lib.hid hqd
  have HF := Lib.hid hF
  clear hqs hql hqd hF
  obtain ⟨i0, hi, hz0, hz1, hz2⟩ := info_parts Tryd.infoQ
  go_enter Tryd.func67, Tryd.ntmps67
  go_wp2
  go_loopw [3, 8] (fun o i wr => ∃ (k : Nat) (ts : List T3), k ≤ n ∧ i = .int .i64 k ∧ Hid (ts.length = k) ∧ wr.ownsRow w.heap.size 43 3 o k (flat ts) ∧ NoInt wr o ∧ Hid (∀ (i : Nat) (t : T3) (q : Rat), ts[i]? = some t → qs[i]? = some q → QV wr t.1 t.2.1 t.2.2 q) ∧ Below w.heap.size w wr) (fun _ i _ => n - (intOf i).toNat)
  case atStart => exact ⟨0, [], by omega, rfl, Lib.hid rfl, World.ownsRow_nil _ _ _ _, NoInt.nil _, Lib.hid (by simp), Below.refl _ _⟩
  case round =>
    obtain ⟨k, ts, hk, rfl, hts, hown, hno, hq, hbel⟩ := hrel
    by_cases hlt : k < n
    · have hF2 := HF.out.below hbel (Nat.le_refl _)
      have hqk := HQD.out k hlt
      have y0 := hF2.2 k (by omega)
      obtain ⟨m, hm⟩ : ∃ m, n - 1 - k = m := ⟨_, rfl⟩
      have hm1 : (n : Int) - 1 - k = m := by omega
      have hm2 : m < 11 := by omega
      have hw2 : IntKind.i64.wrap (m : Int) = m := by rw [IntKind.wrap_i64]; omega
      have hw3 : IntKind.i64.wrap ((n : Int) - 1) = n - 1 := by rw [IntKind.wrap_i64]; omega
      have hw4 : IntKind.i64.wrap ((n : Int) - 1 - k) = m := by rw [IntKind.wrap_i64]; omega
      have y1 := hF2.2 m (by omega)
      have y2 := hF2.2 n (by omega)
      have hg0 := hF2.1
      have ix0 := Tryd.facIx k (by omega)
      have ix1 := Tryd.facIx m (by omega)
      have ix2 := Tryd.facIx n (by omega)
      have hla := fc_le k (by omega)
      have hlb := fc_le m (by omega)
      have hlc := fc_le n (by omega)
      unfold wt at hqk
      rw [hm] at hqk
      clear hF2
      generalize fc k = a at *
      generalize fc m = b at *
      generalize fc n = c at *
      have hab : (a * b : Nat) ≤ 3628800 * 3628800 := Nat.mul_le_mul hla.2 hlb.2
      obtain ⟨p, hp⟩ : ∃ p : Int, (a : Int) * (b : Int) = p := ⟨_, rfl⟩
      have hp0 : 0 ≤ p ∧ p ≤ 13168189440000 := by
        rw [← hp, ← Int.natCast_mul]
        omega
      rw [hp] at hqk
      have hw1 : IntKind.i64.wrap p = p := by rw [IntKind.wrap_i64]; omega
      have hO := fun wd => over_pos p c wd (by omega) (by omega) (by omega) (by omega)
      rw [← hqk] at hO
      replace hO := Lib.hid hO
      have hgn : ¬ wr.heap.size = 0 := by omega
      have hng : ¬ 0 = wr.heap.size := by omega
      clear hqk hab hla hlb hlc hp0 hm
      go_upto_region 6 with fail
      go_cut [5] (fun u wc => ∃ (pp : Nat) (b' : Bool) (A1 : Option Addr) (k1 c1 : Nat) (A2 : Option Addr) (k2 c2 : Nat), u = .pointer (some ⟨pp, 0, none⟩) ∧ Blk wc pp [.bool b', .slice A1 k1 c1, .slice A2 k2 c2] 43 ∧ QV wc b' (.slice A1 k1 c1) (.slice A2 k2 c2) (qs.getD k 0) ∧ Below wr.heap.size wr wc)
      case first =>
        go_region_held3 (fun w' => w'.cell? ⟨0, k, none⟩ = some (Value.int IntKind.i64 (a : Int)) ∧ w'.cell? ⟨0, m, none⟩ = some (Value.int IntKind.i64 (b : Int)) ∧ w'.cell? ⟨0, n, none⟩ = some (Value.int IntKind.i64 (c : Int))) (go_keep)
          (first
            | ((go_at_call 89; refine (hO.out _).mono ?_; rintro e w_1 ⟨b', v5, v6, rfl, hq', hb_1⟩; have hx_1 : Below wr.heap.size wr w_1 := bel_step hb_1 (by ((repeat (first | with_reducible exact Below.refl _ _ | with_reducible refine Below.drew ?_ | with_reducible refine Below.alloc' ?_ _)); done)); have lw_1 : wr.heap.size ≤ w_1.heap.size := hx_1.size; obtain ⟨A1, k1, c1, A2, k2, c2, rfl, rfl⟩ := hq'.slices; have q0 : w_1.cell? ⟨0, k, none⟩ = some (Value.int IntKind.i64 (a : Int)) := (hx_1.cell (p := ⟨0, k, none⟩) hg0).trans y0; have q1 : w_1.cell? ⟨0, m, none⟩ = some (Value.int IntKind.i64 (b : Int)) := (hx_1.cell (p := ⟨0, m, none⟩) hg0).trans y1; have q2 : w_1.cell? ⟨0, n, none⟩ = some (Value.int IntKind.i64 (c : Int)) := (hx_1.cell (p := ⟨0, n, none⟩) hg0).trans y2; have nq : ¬ w_1.heap.size = 0 := Nat.ne_of_gt (Nat.lt_of_lt_of_le hg0 lw_1); have qn : ¬ 0 = w_1.heap.size := Nat.ne_of_lt (Nat.lt_of_lt_of_le hg0 lw_1); (first | (have u_1 := new_d rfl hb_1; have ua := u_1.c0; have ub := u_1.c1; have uc := u_1.c2; have ud := u_1.frozen 0; have ue := u_1.frozen 1; have uf := u_1.frozen 2; have ul := u_1.lt) | skip); clear hb_1))
            | ((fail)))
        all_goals (go_wp2_with fail; go_meet)
        all_goals
          refine ⟨_, b', A1, k1, c1, A2, k2, c2, rfl, ?_, ⟨⟨?_, hq'.1.2⟩, ?_⟩, ?_⟩
          · have hqa := hq'.1.1; ((repeat (first | with_reducible assumption | with_reducible exact Blk.mk _ _ (by (simp; done)) _ _ | with_reducible exact Blk.new _ _ _ | with_reducible refine Blk.set3 (a := .bool false) (b := .slice none 0 0) (c := .slice none 0 0) ?_ | with_reducible refine Blk.far3 ?_ (by omega) | with_reducible refine Blk.alloc ?_ _ | with_reducible refine Blk.drew ?_)); done)
          · have hqa := hq'.1.1; ((repeat (first | with_reducible assumption | with_reducible refine NatV.box3 (a := .bool false) (b := .slice none 0 0) (c := .slice none 0 0) (T := 43) ?_ (by ((repeat (first | with_reducible assumption | with_reducible exact Blk.mk _ _ (by (simp; done)) _ _ | with_reducible exact Blk.new _ _ _ | with_reducible refine Blk.set3 (a := .bool false) (b := .slice none 0 0) (c := .slice none 0 0) ?_ | with_reducible refine Blk.far3 ?_ (by omega) | with_reducible refine Blk.alloc ?_ _ | with_reducible refine Blk.drew ?_)); done)) (by simp) (by simp) | with_reducible refine NatV.alloc ?_ _)); done)
          · have hqa := hq'.2; ((repeat (first | with_reducible assumption | with_reducible refine NatV.box3 (a := .bool false) (b := .slice none 0 0) (c := .slice none 0 0) (T := 43) ?_ (by ((repeat (first | with_reducible assumption | with_reducible exact Blk.mk _ _ (by (simp; done)) _ _ | with_reducible exact Blk.new _ _ _ | with_reducible refine Blk.set3 (a := .bool false) (b := .slice none 0 0) (c := .slice none 0 0) ?_ | with_reducible refine Blk.far3 ?_ (by omega) | with_reducible refine Blk.alloc ?_ _ | with_reducible refine Blk.drew ?_)); done)) (by simp) (by simp) | with_reducible refine NatV.alloc ?_ _)); done)
          · ((repeat (first | with_reducible assumption | with_reducible refine Below.set3 ?_ (by omega) | with_reducible refine Below.alloc' ?_ _)); done)
      case rest =>
        obtain ⟨pp, b', A1, k1, c1, A2, k2, c2, rfl, P, hv, hb1⟩ := hcut
        have x0 := P.c0
        have x1 := P.c1
        have x2 := P.c2
        have hbel1 := hbel.trans (hb1.mono hbel.size)
        have hown1 := own_below hown hb1
        have hno1 := noint_below hown hno hb1
        clear y0 y1 y2 hg0 hgn hng hO ix0 ix1 ix2
        go_wp2_with ((at_builtin; refine wpList_append_noint rfl _ _ 28 rfl w.heap.size 43 i0 (.agg #[.bool false, .slice none 0 0, .slice none 0 0]) 3 56 Tryd.underlying28 hi hz0 hz1 hz2 rfl (by decide) _ _ _ rfl (hown1.alloc _) (noint_alloc hown1 hno1 _) z3_no ⟨wc.heap.size, 0, none⟩ 1 1 [.bool b', .slice A1 k1 c1, .slice A2 k2 c2] rfl rfl ?c1 ?c2 ?c3 (by decide) ?c4 ?c5 ?c6 ?_))
        case c1 => intro t u hu; rcases t with _ | _ | _ | t <;> simp at hu <;> subst hu <;> simp [Addr.add]
        case c2 => intro u hu; simp at hu; rcases hu with rfl | rfl | rfl <;> rfl
        case c3 => intro u hu; simp at hu; rcases hu with rfl | rfl | rfl <;> simp
        case c4 => unfold maxLen; omega
        case c5 => omega
        case c6 => simp; have := hb1.size; have := hbel.size; omega
        intro v' w2 hown' hgrow hno'
        have hbel2 : Below w.heap.size w w2 := (hbel1.alloc hbel1.size _).grown hgrow (by simp; have := hbel1.size; omega) (fun q hq => by have := (hown1.lt q hq).1; omega)
        have hq2 : ∀ (i : Nat) (t : T3) (q : Rat), (ts ++ [(b', .slice A1 k1 c1, .slice A2 k2 c2)])[i]? = some t → qs[i]? = some q → QV w2 t.1 t.2.1 t.2.2 q :=
          facts_snoc (fun i t q ht hqi => (((hq.out i t q ht hqi).below hb1 (Nat.le_refl _)).alloc _).grown (hown1.alloc _) (noint_alloc hown1 hno1 _) hgrow) (fun q hqq => by
            rw [hts.out, List.getElem?_eq_getElem (by rw [HL.out]; exact hlt)] at hqq
            simp only [Option.some.injEq] at hqq
            rw [List.getD_eq_getElem?_getD, List.getElem?_eq_getElem (by rw [HL.out]; exact hlt), Option.getD_some, hqq] at hv
            exact (hv.alloc _).grown (hown1.alloc _) (noint_alloc hown1 hno1 _) hgrow)
        have hown2 : w2.ownsRow w.heap.size 43 3 v' (k + 1) (flat (ts ++ [(b', .slice A1 k1 c1, .slice A2 k2 c2)])) := by rw [flat_append]; exact hown'
        have HQ2 := Lib.hid hq2
        clear hq2 hown' hgrow hown1 hno1 hv hb1 hbel1 hbel hown hno hq
        clear P x0 x1 x2
        go_wp2
        go_roundw
        case rel => exact ⟨k + 1, _, by omega, by go_num, Lib.hid (by simp [hts.out]), hown2, hno', HQ2, hbel2⟩
        case measure => simp [intOf]; omega
    · obtain rfl : k = n := by omega
      go_wp2
      go_ret
      exact ⟨_, rfl, own_row3 hown (by rw [HL.out]) (by rw [hts.out, HL.out]) hq.out, hbel⟩

end Go.Proofs.YtjfkniknmkcdcaaDoor
