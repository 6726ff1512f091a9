/- Texts of this claim, joined: Rl, Rm, Bt. -/
import Derived.Test.YtjfkniknmkcdcaaGreatDoorMPk
import Derived.Test.YtjfkniknmkcdcaaGreatDoorMRj
import Derived.Test.YtjfkniknmkcdcaaGreatDoorMKn
import Derived.Test.YtjfkniknmkcdcaaGreatDoorMSf
namespace Go.Proofs.YtjfkniknmkcdcaaGreatDoor
open Go.RowKit K Nu

theorem ords_row : ∀ n, n < 4 → ∀ i, i < (ords n).length → ∀ k, k < n + 1 → (ords (n + 1)).getD (i * (n + 1) + k) [] = insAt ((ords n).getD i []) k n := by decide +kernel
theorem ords_cnt : ∀ n, n < 4 → (ords (n + 1)).length = (ords n).length * (n + 1) ∧ (ords n).length ≤ 6 := by decide +kernel
theorem ords_all : ∀ n, n < 5 → ∀ l, l ∈ ords n → l.length = n ∧ (∀ c, c ∈ l → c < n) ∧ hav l 0 = 2 ^ n - 1 := by decide +kernel
theorem Tryz.infoInt : (Tryz.prog.info? 3).map (fun i => (i.zero, i.size, i.bytes)) = some (some (.int .i64 0), 1, 8) := by kernel_rfl
theorem Tryz.infoInts : (Tryz.prog.info? 22).map (fun i => (i.zero, i.size, i.bytes)) = some (some (.slice none 0 0), 1, 24) := by kernel_rfl
theorem zs_no : ∀ y, y ∈ (Value.slice none 0 0).cells.toList → ∀ k q, y ≠ .int k q := by
  intro y hy; simp [Value.cells] at hy; subst hy; simp
theorem rows_snoc {P : Value → List Nat → Prop} {vs' : List Value} {u : Value} {ls : List (List Nat)} {n : Nat} (hn : vs'.length = n) (h : ∀ (i : Nat) (v : Value) (l : List Nat), vs'[i]? = some v → ls[i]? = some l → P v l) (hq : ∀ l : List Nat, ls[n]? = some l → P u l) :
    ∀ (i : Nat) (v : Value) (l : List Nat), (vs' ++ [u])[i]? = some v → ls[i]? = some l → P v l := by
  subst hn
  intro i v l ht hqi
  by_cases hi : i < vs'.length
  · rw [List.getElem?_append_left hi] at ht; exact h i v l ht hqi
  · have hle : i < (vs' ++ [u]).length := (List.getElem?_eq_some_iff.1 ht).1
    simp at hle
    obtain rfl : i = vs'.length := by omega
    simp at ht
    subst ht
    exact hq l hqi

set_option maxRecDepth 100000 in
set_option maxHeartbeats 20000000 in
theorem orders_any : ∀ n : Nat, n ≤ 4 → ∀ w : World, Calls Tryz.prog 32 #[.int .i64 (n : Int)] w fun e w' => ∃ r, e = .returned r ∧ RowsI w' r (ords n) ∧ Below w.heap.size w w'
  | 0, _, w => by
    go_enter Tryz.func32, Tryz.ntmps32
    go_wp2_with fail
    go_ret
    refine ⟨_, rfl, ⟨_, _, [.slice none 0 0], rfl, Nat.le_refl _, by decide, rfl, fun _ => ⟨_, 0, rfl, by simp, fun j u hu => ?_⟩, fun i v l hv hl => ?_⟩, (Below.refl _ _).alloc (Nat.le_refl _) _⟩
    · rw [Nat.zero_add, (Blk.new w [.slice none 0 0] 22).cell]; exact hu
    · rcases i with _ | i
      · simp [ords] at hv hl; subst hv hl; exact IsInts.nil _ _
      · simp at hv
  | n + 1, hn, w => by
    have ih := Lib.hid (fun wd => orders_any n (by omega) wd)
    have e1 : IntKind.i64.wrap (((n + 1 : Nat) : Int) - 1) = n := by rw [IntKind.wrap_i64]; omega
    have HR := Lib.hid (fun i hi k hk => ords_row n (by omega) i hi k hk)
    have hcnt := ords_cnt n (by omega)
    have HA := Lib.hid (ords_all n (by omega))
    obtain ⟨M, hM⟩ : ∃ M, (ords n).length = M := ⟨_, rfl⟩
    rw [hM] at hcnt
    obtain ⟨hcn, hM6⟩ := hcnt
    have HM := Lib.hid hM
    have HC := Lib.hid hcn
    have en : ¬ n + 1 = 0 := by omega
    have t0 : (((n + 1 : Nat) : Int) == 0) = false := beq_eq_false_iff_ne.2 (by omega)
    obtain ⟨i0, hi, hz0, hz1, hz2⟩ := info_parts Tryz.infoInts
    obtain ⟨i1, hi1, hy0, hy1, hy2⟩ := info_parts Tryz.infoInt
    clear hM hcn
    obtain ⟨N, hN⟩ : ∃ N : Nat, n + 1 = N := ⟨_, rfl⟩
    rw [hN] at HR HC t0 e1 ⊢
    go_enter Tryz.func32, Tryz.ntmps32
    go_wp2_with fail
    refine (ih.out _).mono ?_
    rintro e w1 ⟨r1, rfl, hr1, hb1⟩
    obtain ⟨B1, cc1, rfl, hlc1, hcm1, hat1⟩ := hr1.at
    rw [HM.out] at hlc1 hat1 ⊢
    unfold maxLen at hcm1
    have HB1 := Lib.hid hb1
    have HAT := Lib.hid hat1
    clear hr1 hb1 hat1 ih
    go_wp2_with fail
    go_loopw [3, 5] (fun out i wr => ∃ (j : Nat) (vals : List Value), j ≤ M ∧ i = .int .i64 j ∧ Hid (wr.ownsRow w1.heap.size 22 1 out (j * N) vals) ∧ Hid (NoInt wr out) ∧ Hid (∀ (i : Nat) (v : Value) (l : List Nat), vals[i]? = some v → (ords N)[i]? = some l → IsInts .i64 wr v (l.map Int.ofNat)) ∧ Hid (Below w1.heap.size w1 wr)) (fun _ i _ => M - (intOf i).toNat)
    case atStart => exact ⟨0, [], by omega, rfl, Lib.hid (by rw [Nat.zero_mul]; exact World.ownsRow_nil _ _ _ _), Lib.hid (NoInt.nil _), Lib.hid (by simp), Lib.hid (Below.refl _ _)⟩
    case round =>
      obtain ⟨j, vals, hj, rfl, hown, hno, hq, hbel⟩ := hrel
      by_cases hlt : j < M
      · go_wp2_with fail
        go_loopw [3, 6] (fun out i wr => ∃ (k : Nat) (vals : List Value), k ≤ N ∧ i = .int .i64 k ∧ Hid (wr.ownsRow w1.heap.size 22 1 out (j * N + k) vals) ∧ Hid (NoInt wr out) ∧ Hid (∀ (i : Nat) (v : Value) (l : List Nat), vals[i]? = some v → (ords N)[i]? = some l → IsInts .i64 wr v (l.map Int.ofNat)) ∧ Hid (Below w1.heap.size w1 wr)) (fun _ i _ => N - (intOf i).toNat)
        case atStart => exact ⟨0, vals, by omega, rfl, hown, hno, hq, hbel⟩
        case round =>
          clear hown hno hq hbel vals
          obtain ⟨k, vals, hk, rfl, hown, hno, hq, hbel⟩ := hrel
          by_cases hkn : k < N
          · obtain ⟨gl, ol, vi, rfl, hgl, hcl, hI⟩ := HAT.out j hlt
            have hrow := HR.out j (by rw [HM.out]; exact hlt) k (by omega)
            have hall := HA.out ((ords n).getD j []) (by rw [List.getD_eq_getElem?_getD, List.getElem?_eq_getElem (by rw [HM.out]; exact hlt)]; exact List.getElem_mem _)
            generalize (ords n).getD j [] = l at *
            have HROW := Lib.hid hrow
            have HLN := Lib.hid hall.1
            have x1 := (hbel.out.cell (p := ⟨gl, ol + j, none⟩) hgl).trans hcl
            have HI := Lib.hid (hI.below hbel.out (Nat.le_refl _))
            obtain ⟨Ai, ci, rfl, hlci, hmci, hadr⟩ := hI
            rw [List.length_map, hall.1] at hlci hmci hadr
            rw [List.length_map, hall.1] at x1 HI
            have lgl : gl < wr.heap.size := Nat.lt_of_lt_of_le hgl hbel.out.size
            have hj3 : (j : Int) < (M : Int) := by omega
            have hk1 : (0 : Int) ≤ (k : Int) := by omega
            have hk2 : (k : Int) ≤ (n : Int) := by omega
            have hk3 : (k : Int) ≤ (ci : Int) := by omega
            have hk4 : (n : Int) ≤ (ci : Int) := by omega
            have en2 : IntKind.i64.wrap ((N : Int) - 1) = n := e1
            have hgl1 := hgl
            have hjN : j * N ≤ 5 * 4 := Nat.mul_le_mul (by omega) (by omega)
            rw [List.length_map, hall.1] at hcl
            clear hrow hall hadr hgl
            replace hcl := Lib.hid hcl
            go_upto_region 11 with fail
            go_region_held3 (fun w' => w'.cell? ⟨gl, ol + j, none⟩ = some (Value.slice Ai n ci)) (go_keep)
              (first
                | ((refine step_append_ints rfl (.tmp 25) (.tmp 31) 22 rfl wr.heap.size 3 i1 (.int .i64 0) 8 Tryz.underlying22 hi1 hy0 hy1 hy2 rfl (.slice (some ⟨wr.heap.size, 0, none⟩) 0 0) 0 [] (by rfl) (by first | (exact own_fresh _ _ 3 (by simp) (by simp)) | (exact (own_fresh _ _ 3 (by simp) (by simp)).alloc _)) _ ((l.map Int.ofNat).take k) (by rfl) ((HI.out.below (by (repeat (first | with_reducible exact Below.refl _ _ | with_reducible refine Below.drew ?_ | with_reducible refine Below.alloc' ?_ _)); done) (Nat.le_refl _)).take (by rw [List.length_map, HLN.out]; omega)) k (by rw [List.length_take, List.length_map, HLN.out]; omega) (by unfold maxLen; omega) (by omega) (by simp <;> omega) ?_; intro A5 c5 w5 hown5 hgrow5; have hx5 : Below wr.heap.size wr w5 := K.Below.grown (by (repeat (first | with_reducible exact Below.refl _ _ | with_reducible refine Below.drew ?_ | with_reducible refine Below.alloc' ?_ _)); done) hgrow5 (fun q hq => by simp [Value.ownBlock] at hq; omega) (by simp <;> omega); have HI5 := Lib.hid (HI.out.below hx5 (Nat.le_refl _)); have s5 : w5.cell? ⟨gl, ol + j, none⟩ = some (Value.slice Ai n ci) := (hx5.cell (p := ⟨gl, ol + j, none⟩) lgl).trans x1; (first | (have hB5 : IsInts .i64 w5 (.slice (some ⟨wr.heap.size + 1, 0, none⟩) 1 1) [(n : Int)] := (ints_one (wr.alloc (.cells #[] 3)) (n : Int) 3 (by simp)).drew.grown_ne hgrow5 (by intro A n c e; injection e with e _ _; injection e with e; subst e; simp [Value.ownBlock]; done)) | skip); clear hgrow5))
                | ((refine step_append_ints rfl (.tmp 25) (.tmp 31) 22 rfl wr.heap.size 3 i1 (.int .i64 0) 8 Tryz.underlying22 hi1 hy0 hy1 hy2 rfl (.slice (some ⟨wr.heap.size + 1, 0, none⟩) 0 0) 0 [] (by rfl) (own_fresh _ _ 3 (by simp) (by simp)) _ ((l.map Int.ofNat).take k) (by rfl) ((HI.out.below (by (repeat (first | with_reducible exact Below.refl _ _ | with_reducible refine Below.drew ?_ | with_reducible refine Below.alloc' ?_ _)); done) (Nat.le_refl _)).take (by rw [List.length_map, HLN.out]; omega)) k (by rw [List.length_take, List.length_map, HLN.out]; omega) (by unfold maxLen; omega) (by omega) (by simp <;> omega) ?_; intro A5 c5 w5 hown5 hgrow5; have hx5 : Below wr.heap.size wr w5 := K.Below.grown (by (repeat (first | with_reducible exact Below.refl _ _ | with_reducible refine Below.drew ?_ | with_reducible refine Below.alloc' ?_ _)); done) hgrow5 (fun q hq => by simp [Value.ownBlock] at hq; omega) (by simp <;> omega); have HI5 := Lib.hid (HI.out.below hx5 (Nat.le_refl _)); have s5 : w5.cell? ⟨gl, ol + j, none⟩ = some (Value.slice Ai n ci) := (hx5.cell (p := ⟨gl, ol + j, none⟩) lgl).trans x1; (have hB5 : IsInts .i64 w5 (.slice (some ⟨wr.heap.size, 0, none⟩) 1 1) [(n : Int)] := ((ints_one wr (n : Int) 3 rfl).alloc (.cells #[] 3)).drew.grown_ne hgrow5 (by intro A n c e; injection e with e _ _; injection e with e; subst e; simp [Value.ownBlock]; done)); clear hgrow5))
                | ((refine step_append_ints rfl (.tmp 32) (.tmp 35) 22 rfl wr.heap.size 3 i1 (.int .i64 0) 8 Tryz.underlying22 hi1 hy0 hy1 hy2 rfl (.slice A5 k c5) k ((l.map Int.ofNat).take k) (by rfl) (by first | (exact hown5) | (exact hown5.alloc _)) _ [(n : Int)] (by rfl) (by first | (exact hB5) | (exact ints_one _ _ 3 rfl)) (k + 1) rfl (by unfold maxLen; omega) (by omega) (by have := hx5.size; simp; omega) ?_; intro A6 c6 w6 hown6 hgrow6; have hx6 : Below wr.heap.size wr w6 := K.Below.grown (by first | (exact hx5) | (exact hx5.alloc hx5.size _)) hgrow6 (fun q hq => (hown5.lt q hq).1) (by have := hx5.size; simp; omega); have HI6 := Lib.hid (HI.out.below hx6 (Nat.le_refl _)); have s6 : w6.cell? ⟨gl, ol + j, none⟩ = some (Value.slice Ai n ci) := (hx6.cell (p := ⟨gl, ol + j, none⟩) lgl).trans x1; clear hgrow6 hown5 hx5 HI5))
                | ((refine step_append_ints rfl (.tmp 36) (.tmp 42) 22 rfl wr.heap.size 3 i1 (.int .i64 0) 8 Tryz.underlying22 hi1 hy0 hy1 hy2 rfl (.slice A6 (k + 1) c6) (k + 1) ((l.map Int.ofNat).take k ++ [(n : Int)]) (by rfl) hown6 _ ((l.map Int.ofNat).drop k) (by rfl) (HI6.out.drop (by rw [List.length_map, HLN.out]; omega)) N (by rw [List.length_drop, List.length_map, HLN.out]; omega) (by unfold maxLen; omega) (by omega) (by have := hx6.size; omega) ?_; intro A7 c7 w7 hown7 hgrow7; have hx7 : Below wr.heap.size wr w7 := K.Below.grown hx6 hgrow7 (fun q hq => (hown6.lt q hq).1) hx6.size; have s7 : w7.cell? ⟨gl, ol + j, none⟩ = some (Value.slice Ai n ci) := (hx7.cell (p := ⟨gl, ol + j, none⟩) lgl).trans x1; clear hgrow7 hown6 hx6 HI6))
                | ((refine step_append_noint rfl (.tmp 24) (.tmp 44) 71 rfl w1.heap.size 22 i0 (.slice none 0 0) 1 24 Tryz.underlying71 hi hz0 hz1 hz2 rfl (by decide) _ _ _ (by rfl) ((own_below hown.out hx7).alloc _) (noint_alloc (own_below hown.out hx7) (noint_below hown.out hno.out hx7) _) zs_no ⟨w7.heap.size, 0, none⟩ 1 1 [.slice A7 N c7] (by rfl) rfl (fun t u hu => by (rcases t with _ | t <;> simp at hu <;> subst hu <;> simp [Addr.add])) (fun u hu => by (simp at hu; subst hu; rfl)) (fun u hu => by (simp at hu; subst hu; simp)) (by decide) (by unfold maxLen; omega) (by omega) (by have := hx7.size; have := hbel.out.size; simp; omega) ?_; intro v8 w8 hown8 hgrow8 hno8; have hlw : w1.heap.size ≤ w7.heap.size := Nat.le_trans hbel.out.size hx7.size; have hx8 := Lib.hid (K.Below.grown (((hbel.out.trans (hx7.mono hbel.out.size))).alloc hlw (.cells #[.slice A7 N c7] 22)) hgrow8 (fun q hq => (hown.out.lt q hq).1) (by simp; omega)); have hq8 := Lib.hid (rows_snoc (P := fun v l => IsInts .i64 w8 v (l.map Int.ofNat)) (vs' := vals) (u := .slice A7 N c7) (ls := ords N) (n := j * N + k) (by have := hown.out.1; omega) (fun i v l hv hl => (((hq.out i v l hv hl).below hx7 (Nat.le_refl _)).alloc _).grown ((own_below hown.out hx7).alloc _) (noint_alloc (own_below hown.out hx7) (noint_below hown.out hno.out hx7) _) hgrow8) (fun l' hl' => by (have e := HROW.out; rw [List.getD_eq_getElem?_getD, hl', Option.getD_some] at e; subst e; have h9 := own_ints hown7 (by simp [HLN.out]; omega); have h10 := ((h9.alloc (.cells #[.slice A7 N c7] 22)).grown ((own_below hown.out hx7).alloc _) (noint_alloc (own_below hown.out hx7) (noint_below hown.out hno.out hx7) _) hgrow8); rw [show (insAt l k n).map Int.ofNat = (l.map Int.ofNat).take k ++ [(n : Int)] ++ (l.map Int.ofNat).drop k by simp [insAt, List.map_take, List.map_drop]]; exact h10))); have s8 : w8.cell? ⟨gl, ol + j, none⟩ = some (Value.slice Ai n ci) := (hx8.out.cell (p := ⟨gl, ol + j, none⟩) hgl1).trans hcl.out; have HO8 := Lib.hid hown8; have HN8 := Lib.hid hno8; clear hgrow8 hown8 hno8 hown7 hx7 hlw))
                | ((fail)))
            all_goals go_wp2_with fail
            all_goals
              go_roundw
              case rel => exact ⟨k + 1, _, by omega, by go_num, HO8, HN8, hq8, hx8⟩
              case measure => simp [intOf]; omega
          · obtain rfl : k = N := by omega
            go_wp2_with fail
            go_roundw
            case rel => exact ⟨j + 1, vals, by omega, by go_num, by rw [Nat.succ_mul]; exact hown, hno, hq, hbel⟩
            case measure => simp [intOf]; omega
      · obtain rfl : j = M := by omega
        go_wp2_with fail
        go_ret
        exact ⟨_, rfl, own_rowsI hown.out HC.out.symm hq.out, HB1.out.trans (hbel.out.mono HB1.out.size)⟩

end Go.Proofs.YtjfkniknmkcdcaaGreatDoor

namespace Go.Proofs.YtjfkniknmkcdcaaGreatDoor
open Go.RowKit K Nu

/-- all that the document reckons on the way is short -/
structure RFit (v : List Rat) (n : Nat) : Prop where
  sv : ∀ q, q ∈ v → Tiny q
  t : ∀ l c, Tiny (tval v n l c)
  r : ∀ k c, k ≤ (ords n).length → c < n → Tiny (rs v n c k)
theorem tab_rfit {v : List Rat} {z : Nat → Int} {n : Nat} (h : Tab v z 240) (hn : n ≤ 4) : RFit v n := by
  have ht : ∀ l c, Tiny (tval v n l c) := by
    intro l c
    by_cases hc : c < n
    · unfold tval
      rw [tset_tz h l 0 _ 0 (by simpa using hc) (by rw [List.getD_eq_getElem?_getD, List.getElem?_replicate, if_pos hc, lat_zero]; rfl)]
      have := tz_le h.2 (c := c) l 0 0 (by omega)
      exact lat_tiny (by decide) (by decide) (by omega) (by omega)
    · unfold tval
      rw [List.getD_eq_getElem?_getD, List.getElem?_eq_none (by rw [tset_len, List.length_replicate]; omega)]
      exact ⟨by decide, by decide⟩
  refine ⟨fun q hq => ?_, ht, fun k c hk hc => ?_⟩
  · obtain ⟨s, rfl⟩ := h.mem hq
    have := h.2 s
    rw [h.1]; exact lat_tiny (by decide) (by decide) (by omega) (by omega)
  · rw [rs_rz h hc]
    have h1 := rz_le h.2 (n := n) (c := c) k
    have h2 : (ords n).length ≤ 24 := by
      obtain rfl | rfl | rfl | rfl | rfl : n = 0 ∨ n = 1 ∨ n = 2 ∨ n = 3 ∨ n = 4 := by omega
      all_goals decide +kernel
    have h3 : 2 * (240 : Int) * k ≤ 2 * 240 * 24 := Int.mul_le_mul_of_nonneg_left (by omega) (by decide)
    exact lat_tiny (by decide) (by decide) (by omega) (by omega)
/-- a row of so many fractions, from a cell on -/
def TF (w : World) (g o i : Nat) (l : List Rat) : Prop := ∀ c, c < i → ∃ bb u d, w.cell? ⟨g, o + c * 3, none⟩ = some (.bool bb) ∧ w.cell? ⟨g, o + c * 3 + 1, none⟩ = some u ∧ w.cell? ⟨g, o + c * 3 + 2, none⟩ = some d ∧ RQ w bb u d (l.getD c 0)
theorem TF.below {B : Nat} {w w' : World} {g o i : Nat} {l : List Rat} (h : TF w g o i l) (hb : Below B w w') (hB : w.heap.size ≤ B) (hg : g < w.heap.size) : TF w' g o i l := by
  intro c hc
  obtain ⟨bb, u, d, h0, h1, h2, h3⟩ := h c hc
  have hl : g < B := Nat.lt_of_lt_of_le hg hB
  exact ⟨bb, u, d, (hb.cell (p := ⟨g, o + c * 3, none⟩) hl).trans h0, (hb.cell (p := ⟨g, o + c * 3 + 1, none⟩) hl).trans h1, (hb.cell (p := ⟨g, o + c * 3 + 2, none⟩) hl).trans h2, h3.below hb hB⟩
theorem cell_set3 {w : World} {g i j k : Nat} {x y z : Value} {a : Addr} (hne : a.block ≠ g) : (((w.setCell ⟨g, i, none⟩ x).setCell ⟨g, j, none⟩ y).setCell ⟨g, k, none⟩ z).cell? a = w.cell? a := by
  rw [World.cell?_of_block (w := ((w.setCell ⟨g, i, none⟩ x).setCell ⟨g, j, none⟩ y)) (Below.heap_setCell _ _ _ _ hne), World.cell?_of_block (w := (w.setCell ⟨g, i, none⟩ x)) (Below.heap_setCell _ _ _ _ hne), World.cell?_of_block (w := w) (Below.heap_setCell _ _ _ _ hne)]
theorem TF.set3flat {w : World} {g o i : Nat} {l : List Rat} {h j : Nat} {b : Bool} {u1 u2 : Value} {cs : List Value} {T : TypeId} (k : TF w g o i l) (hB : Blk w h cs T) (hno : ∀ x, x ∈ cs → ∀ k q, x ≠ .int k q) (h1 : ∀ k q, u1 ≠ .int k q) (hne : g ≠ h) :
    TF (((w.setCell ⟨h, j * 3, none⟩ (.bool b)).setCell ⟨h, j * 3 + 1, none⟩ u1).setCell ⟨h, j * 3 + 2, none⟩ u2) g o i l := by
  intro c hc
  obtain ⟨bb, u, d, h0, h2, h3, h4⟩ := k c hc
  exact ⟨bb, u, d, (cell_set3 hne).trans h0, (cell_set3 hne).trans h2, (cell_set3 hne).trans h3, h4.set3flat hB hno h1⟩
theorem ords_pos : ∀ n, n < 5 → 1 ≤ (ords n).length ∧ (ords n).length ≤ 24 := by decide +kernel
theorem tset_get (v : List Rat) (n : Nat) (l : List Nat) {c : Nat} : (tset v l 0 (List.replicate n 0)).getD c 0 = tval v n l c := rfl

set_option maxRecDepth 100000 in
set_option maxHeartbeats 20000000 in
theorem rshares_any (x : Value) (v : List Rat) (n : Nat) (w : World) (h : Row3 RQ w x v) (hvl : v.length = 2 ^ n) (hn1 : 1 ≤ n) (hn4 : n ≤ 4) (fit : RFit v n) :
    Calls Tryz.prog 15 #[x] w fun e w' => ∃ r, e = .returned r ∧ Row3 RQ w' r (rshs v n) ∧ Below w.heap.size w w' := by
  obtain ⟨A1, c1, rfl, -, -, -⟩ := h.at
  obtain ⟨L, hL⟩ : ∃ L, v.length = L := ⟨_, rfl⟩
  have hpL : 2 ^ n = L := by rw [← hvl, hL]
  rw [hL] at h ⊢
  have HX := Lib.hid h
  have hC := fun wd => rcolumns_any L wd
  rw [show cols L = n by rw [← hpL]; exact cols_pow hn1 (by omega)] at hC
  replace hC := Lib.hid hC
  have hOr := Lib.hid (fun wd => orders_any n hn4 wd)
  have HA := Lib.hid (ords_all n (by omega))
  obtain ⟨M, hM⟩ : ∃ M, (ords n).length = M := ⟨_, rfl⟩
  have hpos := ords_pos n (by omega)
  rw [hM] at hpos
  have HM := Lib.hid hM
  have HVL := Lib.hid hvl
  have FIT := Lib.hid fit
  have h16 : L ≤ 16 := by rw [← hpL]; exact Nat.le_trans (Nat.pow_le_pow_right (by decide) hn4) (by decide)
  have hO0 := fun wd => rof_any 0 wd (by decide) (by decide)
  rw [show ((0 : Int) : Rat) = 0 from rfl] at hO0
  replace hO0 := Lib.hid hO0
  have hO := Lib.hid (fun wd => rof_any (M : Int) wd (by omega) (by omega))
  have hmk := mk3_at (P := Tryz.prog) Tryz.underlying23 Tryz.infoRQ .i64 .i64 n (by omega)
  clear h hvl hM fit hL hpL
  have tB : ((6 : Int) < (n : Int)) = False := by simp; omega
  go_enter Tryz.func15, Tryz.ntmps15
  go_wp2_with fail
  refine (hC.out _).mono ?_
  rintro e w1 ⟨rfl, rfl⟩
  go_wp2_with fail
  refine (hOr.out _).mono ?_
  rintro e w2 ⟨r2, rfl, hr2, hb2⟩
  obtain ⟨Bo, co, rfl, hlco, hmco, hato⟩ := hr2.at
  rw [HM.out] at hlco hato ⊢
  unfold maxLen at hmco
  have X2 := Lib.hid (HX.out.below (fun _ _ _ _ h => h.below hb2 (Nat.le_refl _)) hb2 (Nat.le_refl _))
  have B2 := Lib.hid hb2
  have HAT := Lib.hid hato
  clear hb2 hr2 hato hOr hC
  go_wp2_with fail
  go_loopw [6] (fun i wr => ∃ (k : Nat) (ts : List T3), k ≤ n ∧ i = .int .i64 k ∧ Hid (ts.length = n) ∧ Hid (Blk wr w2.heap.size (flat ts) 55) ∧ Hid (∀ x, x ∈ flat ts → ∀ k q, x ≠ .int k q) ∧ Hid (∀ (c : Nat) (t : T3), ts[c]? = some t → c < k → RQ wr t.1 t.2.1 t.2.2 0) ∧ Hid (Below w2.heap.size w2 wr)) (fun i _ => n - (intOf i).toNat)
  case atStart => exact ⟨0, List.replicate n z3, by omega, rfl, Lib.hid (by simp), Lib.hid (Blk.new _ _ _), Lib.hid (noflat_rep n), Lib.hid (fun c t ht hc => by omega), Lib.hid ((Below.refl _ _).alloc (Nat.le_refl _) _)⟩
  case round =>
    obtain ⟨i, ts, hi, rfl, hts, P, hno, hq, hbel⟩ := hrel
    by_cases hin : i < n
    · have htc : ts[i]? = some (ts[i]'(by rw [hts.out]; exact hin)) := List.getElem?_eq_getElem _
      obtain ⟨g1, g2, g3⟩ := flat_get ts i _ htc
      generalize ts[i]'(by rw [hts.out]; exact hin) = t1 at *
      obtain ⟨x1, vv1, vv2⟩ := t1
      have lg_0 : w2.heap.size < wr.heap.size := P.out.lt
      clear htc
      go_wp2_with fail
      refine (hO0.out _).mono ?_
      rintro e w_1 ⟨b7, v9, v10, rfl, hq7, hb_1⟩
      have hB_1 := Lib.hid hb_1
      obtain ⟨E1, e1, f1, rfl⟩ := hq7.1.1.slice
      obtain ⟨E2, e2, f2, rfl⟩ := hq7.2.slice
      have HQ7 := Lib.hid hq7
      clear hq7
      have P3 := Lib.hid (P.out.below hB_1.out lg_0)
      have cz0 := (P3.out.cell (i * 3)).trans g1
      have cz1 := (P3.out.cell (i * 3 + 1)).trans g2
      have cz2 := (P3.out.cell (i * 3 + 2)).trans g3
      have fz0 := P3.out.frozen (i * 3)
      have fz1 := P3.out.frozen (i * 3 + 1)
      have fz2 := P3.out.frozen (i * 3 + 2)
      clear hb_1
      go_wp2_with fail
      go_roundw
      case rel =>
        refine ⟨i + 1, ts.set i (b7, .slice E1 e1 f1, .slice E2 e2 f2), by omega, by go_num, Lib.hid (by rw [List.length_set]; exact hts.out), Lib.hid ?_, Lib.hid (noflat_set hno.out (by rw [hts.out]; exact hin) (by simp) (by simp)), Lib.hid ?_, Lib.hid ?_⟩
        · rw [← flat_set ts i _ _ _ (by rw [hts.out]; exact hin)]
          exact ((P3.out.set (i * 3) (.bool b7)).set (i * 3 + 1) (.slice E1 e1 f1)).set (i * 3 + 2) (.slice E2 e2 f2)
        · intro d t ht hd
          by_cases e : d = i
          · subst e
            rw [List.getElem?_set_self (by rw [hts.out]; exact hin)] at ht
            simp only [Option.some.injEq] at ht
            subst ht
            exact HQ7.out.set3flat P3.out hno.out (by simp)
          · rw [List.getElem?_set_ne (by omega)] at ht
            exact ((hq.out d t ht (by omega)).below hB_1.out (Nat.le_refl _)).set3flat P3.out hno.out (by simp)
        · exact ((((hbel.out.trans (hB_1.out.mono hbel.out.size))).setCell (p := ⟨w2.heap.size, i * 3, none⟩) (Nat.le_refl _) _).setCell (p := ⟨w2.heap.size, i * 3 + 1, none⟩) (Nat.le_refl _) _).setCell (p := ⟨w2.heap.size, i * 3 + 2, none⟩) (Nat.le_refl _) _
      case measure => simp [intOf]; omega
    · obtain rfl : i = n := by omega
      go_wp2_with fail
      go_loopw [7] (fun j wr => ∃ (k : Nat) (ts : List T3), k ≤ M ∧ j = .int .i64 k ∧ Hid (ts.length = i) ∧ Hid (Blk wr w2.heap.size (flat ts) 55) ∧ Hid (∀ x, x ∈ flat ts → ∀ k q, x ≠ .int k q) ∧ Hid (∀ (c : Nat) (t : T3), ts[c]? = some t → RQ wr t.1 t.2.1 t.2.2 (rs v i c k)) ∧ Hid (Below w2.heap.size w2 wr)) (fun j _ => M - (intOf j).toNat)
      case atStart => exact ⟨0, ts, by omega, rfl, hts, P, hno, Lib.hid (fun c t ht => hq.out c t ht (by have := (List.getElem?_eq_some_iff.1 ht).1; rw [hts.out] at this; exact this)), hbel⟩
      case round =>
        clear hq P hts hno hbel ts
        obtain ⟨k, ts, hk, rfl, hts, P, hno, hq, hbel⟩ := hrel
        by_cases hkM : k < M
        · obtain ⟨gl, ol, vl, rfl, hgl, hcl, hI⟩ := HAT.out k hkM
          have hall := HA.out ((ords i).getD k []) (by rw [List.getD_eq_getElem?_getD, List.getElem?_eq_getElem (by rw [HM.out]; exact hkM)]; exact List.getElem_mem _)
          have hrs : ∀ c, rs v i c (k + 1) = rs v i c k + tval v i ((ords i).getD k []) c := fun c => rfl
          generalize (ords i).getD k [] = l at *
          have HRS := Lib.hid hrs
          have xl := (hbel.out.cell (p := ⟨gl, ol + k, none⟩) hgl).trans hcl
          have hT := Lib.hid (rturns_any _ vl v l i wr (X2.out.below (fun _ _ _ _ h => h.below hbel.out (Nat.le_refl _)) hbel.out (Nat.le_refl _)) (hI.below hbel.out (Nat.le_refl _)) HVL.out (by omega) hall.1 hall.2.1 hall.2.2 FIT.out.sv)
          have hk3 : (k : Int) < (M : Int) := by omega
          clear hrs hcl hI hall hgl
          go_wp2_with fail
          refine hT.out.mono ?_
          rintro e w3 ⟨rT, rfl, hrT, hnew, hb3⟩
          obtain ⟨BT, cT, rfl, hlcT, hmcT, hatT⟩ := hrT.at
          rw [tset_len, List.length_replicate] at hlcT hatT ⊢
          obtain ⟨gT, oT, _, _, _, rfl, hgT, -⟩ := hatT 0 (by omega)
          have hgT2 : wr.heap.size ≤ gT := hnew _ _ _ rfl
          have hTF := Lib.hid (show TF w3 gT oT i (tset v l 0 (List.replicate i 0)) from fun c hc => by
            obtain ⟨g', o', bb, u, d, e, -, h0, h1, h2, h3⟩ := hatT c hc
            injection e with e
            injection e with e1 e2
            subst e1 e2
            exact ⟨bb, u, d, h0, h1, h2, h3⟩)
          unfold maxLen at hmcT
          have hPlt := P.out.lt
          have nT1 : ¬ gT = w2.heap.size := by omega
          have nT2 : ¬ w2.heap.size = gT := by omega
          have P3' := Lib.hid (P.out.below hb3 P.out.lt)
          have hq3 := Lib.hid (show ∀ (c : Nat) (t : T3), ts[c]? = some t → RQ w3 t.1 t.2.1 t.2.2 (rs v i c k) from fun c t ht => (hq.out c t ht).below hb3 (Nat.le_refl _))
          have hbel3 := Lib.hid (hbel.out.trans (hb3.mono hbel.out.size))
          clear hrT hb3 hatT hT xl P hq hbel hnew hPlt hgT2
          go_wp2_with fail
          go_loopw [9] (fun m wr => ∃ (i' : Nat) (ts : List T3), i' ≤ i ∧ m = .int .i64 i' ∧ Hid (ts.length = i) ∧ Hid (Blk wr w2.heap.size (flat ts) 55) ∧ Hid (∀ x, x ∈ flat ts → ∀ k q, x ≠ .int k q) ∧ Hid (∀ (c : Nat) (t : T3), ts[c]? = some t → RQ wr t.1 t.2.1 t.2.2 (if c < i' then rs v i c (k + 1) else rs v i c k)) ∧ Hid (Below w2.heap.size w2 wr) ∧ Hid (TF wr gT oT i (tset v l 0 (List.replicate i 0))) ∧ gT < wr.heap.size) (fun m _ => i - (intOf m).toNat)
          case atStart => exact ⟨0, ts, by omega, rfl, hts, P3', hno, Lib.hid (fun c t ht => by rw [if_neg (by omega)]; exact hq3.out c t ht), hbel3, hTF, hgT⟩
          case round =>
            clear hq3 P3' hts hno hbel3 hTF hgT ts
            obtain ⟨c, ts, hci, rfl, hts, P, hno, hq, hbel, hTF, hgT⟩ := hrel
            by_cases hcn : c < i
            · have htc : ts[c]? = some (ts[c]'(by rw [hts.out]; exact hcn)) := List.getElem?_eq_getElem _
              have hQ1 := hq.out c _ htc
              rw [if_neg (Nat.lt_irrefl _)] at hQ1
              obtain ⟨g1, g2, g3⟩ := flat_get ts c _ htc
              generalize ts[c]'(by rw [hts.out]; exact hcn) = t1 at *
              obtain ⟨x1, vv1, vv2⟩ := t1
              have kk0 := (P.out.cell (c * 3)).trans g1
              have kk1 := (P.out.cell (c * 3 + 1)).trans g2
              have kk2 := (P.out.cell (c * 3 + 2)).trans g3
              simp only at kk0 kk1 kk2 hQ1 g1 g2 g3
              obtain ⟨x3, v7, v8, q0_0, q0_1, q0_2, hQ2⟩ := hTF.out c hcn
              rw [tset_get] at hQ2
              obtain ⟨A1, k1, c1, rfl⟩ := hQ1.1.1.slice
              obtain ⟨A2, k2, c2, rfl⟩ := hQ1.2.slice
              obtain ⟨A5, k5, c5, rfl⟩ := hQ2.1.1.slice
              obtain ⟨A6, k6, c6, rfl⟩ := hQ2.2.slice
              have lg_0 : w2.heap.size < wr.heap.size := P.out.lt
              have lgT_0 := hgT
              have hA := Lib.hid (fun (wd : World) (hb : Below wr.heap.size wr wd) => radd_any x1 x3 _ _ _ _ _ _ wd (hQ1.below hb (Nat.le_refl _)) (hQ2.below hb (Nat.le_refl _)) (FIT.out.r k c (by rw [HM.out]; omega) hcn) (FIT.out.t l c))
              have hc3 : (c : Int) < (i : Int) := by omega
              have HSB := Lib.hid (HRS.out c)
              clear hQ1 hQ2 htc
              go_upto_region 17 with fail
              rw [show Op.load 55 (Operand.tmp 53) = id (Op.load 55 (Operand.tmp 53)) from rfl]
              go_region_held3 (fun w' => w'.cell? ⟨gT, oT + c * 3, none⟩ = some (Value.bool x3) ∧ w'.cell? ⟨gT, oT + c * 3 + 1, none⟩ = some (Value.slice A5 k5 c5) ∧ w'.cell? ⟨gT, oT + c * 3 + 2, none⟩ = some (Value.slice A6 k6 c6)) (go_keep)
              (first
                | ((go_at_call 19; refine (hA.out _ ((Below.refl _ _).drew)).mono ?_; rintro e w_1 ⟨b7, v9, v10, rfl, hq7, hb_1⟩; have hB_1 := Lib.hid ((Below.refl wr.heap.size wr).drew.trans hb_1); have q1_0 : w_1.cell? ⟨gT, oT + c * 3, none⟩ = some (Value.bool x3) := (hb_1.cell (p := ⟨gT, oT + c * 3, none⟩) lgT_0).trans q0_0; have q1_1 : w_1.cell? ⟨gT, oT + c * 3 + 1, none⟩ = some (Value.slice A5 k5 c5) := (hb_1.cell (p := ⟨gT, oT + c * 3 + 1, none⟩) lgT_0).trans q0_1; have q1_2 : w_1.cell? ⟨gT, oT + c * 3 + 2, none⟩ = some (Value.slice A6 k6 c6) := (hb_1.cell (p := ⟨gT, oT + c * 3 + 2, none⟩) lgT_0).trans q0_2; obtain ⟨E1, e1, f1, rfl⟩ := hq7.1.1.slice; obtain ⟨E2, e2, f2, rfl⟩ := hq7.2.slice; have HQ7 := Lib.hid hq7; clear hq7; have P3 := Lib.hid (P.out.below hB_1.out lg_0); have cz0 := (P3.out.cell (c * 3)).trans g1; have cz1 := (P3.out.cell (c * 3 + 1)).trans g2; have cz2 := (P3.out.cell (c * 3 + 2)).trans g3; have fz0 := P3.out.frozen (c * 3); have fz1 := P3.out.frozen (c * 3 + 1); have fz2 := P3.out.frozen (c * 3 + 2)))
                | ((fail)))
              all_goals go_wp2_with fail
              all_goals
                go_roundw
                case rel =>
                  refine ⟨c + 1, ts.set c (b7, .slice E1 e1 f1, .slice E2 e2 f2), by omega, by go_num, Lib.hid (by rw [List.length_set]; exact hts.out), Lib.hid ?_, Lib.hid (noflat_set hno.out (by rw [hts.out]; exact hcn) (by simp) (by simp)), Lib.hid ?_, Lib.hid ?_, Lib.hid ?_, ?_⟩
                  · rw [← flat_set ts c _ _ _ (by rw [hts.out]; exact hcn)]
                    exact ((P3.out.set (c * 3) (.bool b7)).set (c * 3 + 1) (.slice E1 e1 f1)).set (c * 3 + 2) (.slice E2 e2 f2)
                  · intro d t ht
                    by_cases e : d = c
                    · subst e
                      rw [List.getElem?_set_self (by rw [hts.out]; exact hcn)] at ht
                      simp only [Option.some.injEq] at ht
                      subst ht
                      rw [if_pos (Nat.lt_succ_self _), HSB.out]
                      exact HQ7.out.set3flat P3.out hno.out (by simp)
                    · rw [List.getElem?_set_ne (by omega)] at ht
                      have := (hq.out d t ht).below hB_1.out (Nat.le_refl _)
                      rw [show (if d < c + 1 then rs v i d (k + 1) else rs v i d k) = (if d < c then rs v i d (k + 1) else rs v i d k) by
                        by_cases h7 : d < c
                        · rw [if_pos h7, if_pos (by omega)]
                        · rw [if_neg h7, if_neg (by omega)]]
                      exact this.set3flat P3.out hno.out (by simp)
                  · exact ((((hbel.out.trans (hB_1.out.mono hbel.out.size))).setCell (p := ⟨w2.heap.size, c * 3, none⟩) (Nat.le_refl _) _).setCell (p := ⟨w2.heap.size, c * 3 + 1, none⟩) (Nat.le_refl _) _).setCell (p := ⟨w2.heap.size, c * 3 + 2, none⟩) (Nat.le_refl _) _
                  · exact (hTF.out.below hB_1.out (Nat.le_refl _) hgT).set3flat P3.out hno.out (by simp) nT1
                  · have := hB_1.out.size
                    simp [World.setCell]
                    omega
                case measure => simp [intOf]; omega
            · obtain rfl : c = i := by omega
              go_wp2_with fail
              go_roundw
              case rel => exact ⟨k + 1, ts, by omega, by go_num, hts, P, hno, Lib.hid (fun d t ht => by
                have := hq.out d t ht
                rw [if_pos (by have := (List.getElem?_eq_some_iff.1 ht).1; rw [hts.out] at this; exact this)] at this
                exact this), hbel⟩
              case measure => simp [intOf]; omega
        · obtain rfl : k = M := by omega
          go_wp2_with fail
          go_loopw [10] (fun m wr => ∃ (i' : Nat) (ts : List T3), i' ≤ i ∧ m = .int .i64 i' ∧ Hid (ts.length = i) ∧ Hid (Blk wr w2.heap.size (flat ts) 55) ∧ Hid (∀ x, x ∈ flat ts → ∀ k q, x ≠ .int k q) ∧ Hid (∀ (c : Nat) (t : T3), ts[c]? = some t → RQ wr t.1 t.2.1 t.2.2 (if c < i' then rs v i c k * mkRat 1 k else rs v i c k)) ∧ Hid (Below w2.heap.size w2 wr)) (fun m _ => i - (intOf m).toNat)
          case atStart => exact ⟨0, ts, by omega, rfl, hts, P, hno, Lib.hid (fun c t ht => by rw [if_neg (by omega)]; exact hq.out c t ht), hbel⟩
          case round =>
            clear hq P hts hno hbel ts
            obtain ⟨c, ts, hci, rfl, hts, P, hno, hq, hbel⟩ := hrel
            by_cases hcn : c < i
            · have htc : ts[c]? = some (ts[c]'(by rw [hts.out]; exact hcn)) := List.getElem?_eq_getElem _
              have hQ1 := hq.out c _ htc
              rw [if_neg (Nat.lt_irrefl _)] at hQ1
              obtain ⟨g1, g2, g3⟩ := flat_get ts c _ htc
              generalize ts[c]'(by rw [hts.out]; exact hcn) = t1 at *
              obtain ⟨x1, vv1, vv2⟩ := t1
              have kk0 := (P.out.cell (c * 3)).trans g1
              have kk1 := (P.out.cell (c * 3 + 1)).trans g2
              have kk2 := (P.out.cell (c * 3 + 2)).trans g3
              simp only at kk0 kk1 kk2 hQ1 g1 g2 g3
              obtain ⟨A1, k1, c1, rfl⟩ := hQ1.1.1.slice
              obtain ⟨A2, k2, c2, rfl⟩ := hQ1.2.slice
              have lg_0 : w2.heap.size < wr.heap.size := P.out.lt
              have hD := Lib.hid (fun (wd : World) (hb : Below wr.heap.size wr wd) {bo : Bool} {u d : Value} (h2 : RQ wd bo u d (((k : Nat) : Int) : Rat)) => rdiv_any x1 bo _ _ u d _ k wd (hQ1.below hb (Nat.le_refl _)) h2 (FIT.out.r k c (by rw [HM.out]; omega) hcn) (by omega) (by omega))
              have hc3 : (c : Int) < (i : Int) := by omega
              clear hQ1 htc
              go_upto_region 21 with fail
              rw [show Op.load 55 (Operand.tmp 70) = id (Op.load 55 (Operand.tmp 70)) from rfl]
              go_region_held3 (fun _ => True) (go_keep)
              (first
                | ((go_at_call 34; refine (hD.out _ hB_1.out HQO.out).mono ?_; rintro e w_2 ⟨b7, v9, v10, rfl, hq7, hb_2⟩; have hB_2 := Lib.hid (hB_1.out.trans (hb_2.mono hB_1.out.size)); obtain ⟨E1, e1, f1, rfl⟩ := hq7.1.1.slice; obtain ⟨E2, e2, f2, rfl⟩ := hq7.2.slice; have HQ7 := Lib.hid hq7; clear hq7; have P3 := Lib.hid (P.out.below hB_2.out lg_0); have cz0 := (P3.out.cell (c * 3)).trans g1; have cz1 := (P3.out.cell (c * 3 + 1)).trans g2; have cz2 := (P3.out.cell (c * 3 + 2)).trans g3; have fz0 := P3.out.frozen (c * 3); have fz1 := P3.out.frozen (c * 3 + 1); have fz2 := P3.out.frozen (c * 3 + 2)))
                | ((go_at_call 33; refine (hO.out _).mono ?_; rintro e w_1 ⟨bo, vo, dd, rfl, hqo, hb_1⟩; have hB_1 := Lib.hid ((Below.refl wr.heap.size wr).drew.trans hb_1); have P1 := Lib.hid (P.out.below hB_1.out lg_0); have kz0 := (P1.out.cell (c * 3)).trans g1; have kz1 := (P1.out.cell (c * 3 + 1)).trans g2; have kz2 := (P1.out.cell (c * 3 + 2)).trans g3; obtain ⟨F1, n1, m1, rfl⟩ := hqo.1.1.slice; obtain ⟨F2, n2, m2, rfl⟩ := hqo.2.slice; have HQO := Lib.hid hqo; clear hqo hb_1))
                | ((fail)))
              all_goals go_wp2_with fail
              all_goals
                go_roundw
                case rel =>
                  refine ⟨c + 1, ts.set c (b7, .slice E1 e1 f1, .slice E2 e2 f2), by omega, by go_num, Lib.hid (by rw [List.length_set]; exact hts.out), Lib.hid ?_, Lib.hid (noflat_set hno.out (by rw [hts.out]; exact hcn) (by simp) (by simp)), Lib.hid ?_, Lib.hid ?_⟩
                  · rw [← flat_set ts c _ _ _ (by rw [hts.out]; exact hcn)]
                    exact ((P3.out.set (c * 3) (.bool b7)).set (c * 3 + 1) (.slice E1 e1 f1)).set (c * 3 + 2) (.slice E2 e2 f2)
                  · intro d t ht
                    by_cases e : d = c
                    · subst e
                      rw [List.getElem?_set_self (by rw [hts.out]; exact hcn)] at ht
                      simp only [Option.some.injEq] at ht
                      subst ht
                      rw [if_pos (Nat.lt_succ_self _)]
                      exact HQ7.out.set3flat P3.out hno.out (by simp)
                    · rw [List.getElem?_set_ne (by omega)] at ht
                      have := (hq.out d t ht).below hB_2.out (Nat.le_refl _)
                      rw [show (if d < c + 1 then rs v i d k * mkRat 1 k else rs v i d k) = (if d < c then rs v i d k * mkRat 1 k else rs v i d k) by
                        by_cases h7 : d < c
                        · rw [if_pos h7, if_pos (by omega)]
                        · rw [if_neg h7, if_neg (by omega)]]
                      exact this.set3flat P3.out hno.out (by simp)
                  · exact ((((hbel.out.trans (hB_2.out.mono hbel.out.size))).setCell (p := ⟨w2.heap.size, c * 3, none⟩) (Nat.le_refl _) _).setCell (p := ⟨w2.heap.size, c * 3 + 1, none⟩) (Nat.le_refl _) _).setCell (p := ⟨w2.heap.size, c * 3 + 2, none⟩) (Nat.le_refl _) _
                case measure => simp [intOf]; omega
            · obtain rfl : c = i := by omega
              go_wp2_with fail
              go_ret
              refine ⟨_, rfl, P.out.row3 (by simp [rshs]) (by rw [hts.out]; simp [rshs]) (by unfold maxLen; omega) (fun d t q ht hqi => ?_), B2.out.trans (hbel.out.mono B2.out.size)⟩
              have hd : d < c := by have := (List.getElem?_eq_some_iff.1 ht).1; rw [hts.out] at this; exact this
              have h8 := hq.out d t ht
              rw [if_pos hd] at h8
              rw [rshs, List.getElem?_map, List.getElem?_range hd, HM.out] at hqi
              injection hqi with hqi
              rw [← hqi]; exact h8

end Go.Proofs.YtjfkniknmkcdcaaGreatDoor

namespace Go.Proofs.YtjfkniknmkcdcaaGreatDoor
open Go.RowKit K Nu

theorem mk_short {n : Int} {d : Nat} (hd : d ≠ 0) (h0 : -2147483648 < n) (h1 : n < 2147483648) (h2 : d < 2147483648) : Short (mkRat n d) := by
  have e1 := mk_num n d hd
  have e2 := mk_den n d hd
  have hg : 0 < Nat.gcd n.natAbs d := Nat.gcd_pos_of_pos_right _ (by omega)
  have h3 : d / Nat.gcd n.natAbs d ≤ d := Nat.div_le_self _ _
  have h4 : (n / (Nat.gcd n.natAbs d : Int)).natAbs ≤ n.natAbs := by
    have hdv : ((Nat.gcd n.natAbs d : Nat) : Int) ∣ n := Int.ofNat_dvd_left.2 (Nat.gcd_dvd_left _ _)
    rw [Int.natAbs_ediv_of_dvd hdv]; exact Nat.div_le_self _ _
  rw [← e1] at h4
  exact ⟨by omega, by omega, by omega⟩
theorem rr_short (n : Int) : Short (rr n) := mk_short (d6_le _).1 (by omega) (by omega) (by have := (d6_le (n.tdiv 41 % 6)).2; omega)
theorem rowQ_short {l : List Int} {n : Nat} : ∀ q, q ∈ rowQ l n → Short q := by
  intro q hq
  simp only [rowQ, List.mem_map] at hq
  obtain ⟨i, -, rfl⟩ := hq
  split
  · exact rr_short _
  · exact shortB_iff (by decide)
theorem rowQ_len {l : List Int} {n : Nat} : (rowQ l n).length = n := by simp [rowQ]
theorem own_bools {w : World} {base : Nat} {e : TypeId} {v : Value} {l : List Bool} (h : w.ownsRow base e 1 v l.length (l.map Value.bool)) : IsBools w v l := by
  rcases h.2 with ⟨rfl, h0⟩ | ⟨g, cap, cur, rfl, -, hg, hc, -, -, -⟩
  · rw [List.eq_nil_of_length_eq_zero h0]; exact ⟨none, 0, rfl, Nat.le_refl _, fun h => absurd rfl h⟩
  · refine ⟨_, _, rfl, hc, fun _ => ⟨g, 0, rfl, lt_of_block hg, fun i hi => ?_⟩⟩
    have := h.cells (g := g) rfl i (.bool (l.getD i false)) (by rw [List.getElem?_map, List.getElem?_eq_getElem hi, List.getD_eq_getElem?_getD, List.getElem?_eq_getElem hi]; rfl)
    rw [Nat.zero_add]
    rwa [show (⟨g, 0, none⟩ : Addr).add i = ⟨g, i, none⟩ by unfold Addr.add; split <;> simp_all] at this
theorem Tryz.infoBool : (Tryz.prog.info? 4).map (fun i => (i.zero, i.size, i.bytes)) = some (some (.bool false), 1, 1) := by kernel_rfl
theorem zb_no : ∀ y, y ∈ (Value.bool false).cells.toList → ∀ k q, y ≠ .int k q := by
  intro y hy; simp [Value.cells] at hy; subst hy; simp
/-- the bits of a number, as many as asked -/
def bitsB (p k : Nat) : List Bool := (List.range k).map fun i => p.testBit i
theorem bitsB_len (p k : Nat) : (bitsB p k).length = k := by simp [bitsB]
theorem bitsB_succ (p k : Nat) : bitsB p (k + 1) = bitsB p k ++ [p.testBit k] := by simp [bitsB, List.range_succ]


/-- how many columns, how many numbers -/
def tk (n : Int) : Nat := (n % 4).toNat + 1
def tbm (n odd : Int) : Nat := 2 ^ tk n + (if odd % 9 = 8 then 1 else 0)
theorem tk_le (n : Int) : 1 ≤ tk n ∧ tk n ≤ 4 := by unfold tk; omega
set_option maxRecDepth 100000 in
set_option maxHeartbeats 4000000 in
theorem table_any (v : Value) (l : List Int) (n odd : Int) (w : World) (h : IsInts .i64 w v l) (hl : ∀ x, x ∈ l → I64 x) :
    Calls Tryz.prog 5 #[v, .int .i64 n, .int .i64 odd] w fun e w' => ∃ r, e = .returned (.tuple #[r, .int .i64 (tk n : Int)]) ∧ Row3 RQ w' r (rowQ l (tbm n odd)) ∧ Below w.heap.size w w' := by
  obtain ⟨k, hk⟩ : ∃ k, tk n = k := ⟨_, rfl⟩
  have hkl := tk_le n
  have hkz : n % 4 + 1 = (k : Int) := by rw [← hk]; unfold tk; omega
  obtain ⟨m, hm⟩ : ∃ m, tbm n odd = m := ⟨_, rfl⟩
  have hmz := hm
  unfold tbm at hmz
  rw [hk] at hkl hmz ⊢
  rw [hm]
  have h16 : 2 ^ k ≤ 16 := Nat.le_trans (Nat.pow_le_pow_right (by decide) hkl.2) (by decide)
  obtain ⟨S, hS⟩ : ∃ S, 2 ^ k = S := ⟨_, rfl⟩
  rw [hS] at h16 hmz
  have hSz : (2 : Int) ^ k = (S : Int) := by rw [← hS, Int.natCast_pow]; rfl
  have hwS : IntKind.i64.wrap (S : Int) = S := by rw [IntKind.wrap_i64]; omega
  have hw0 : IntKind.i64.wrap (n % 4 + 1) = k := by rw [IntKind.wrap_i64]; omega
  have hmm : min k 64 = k := by omega
  have hwm : IntKind.u64.wrap (k : Int) = k := by rw [wrap64u]; omega
  have hP1 := Lib.hid (fun wd => pick_any n 4 wd (by decide) (by decide))
  have hP2 := Lib.hid (fun wd => pick_any odd 9 wd (by decide) (by decide))
  have hR := Lib.hid (row_any v l m w h hl (by split at hmz <;> omega))
  obtain ⟨A, c, rfl, -, -, -⟩ := h
  clear hk hkz hm hl hS hkl
  by_cases ho : odd % 9 = 8
  · have t1 : (odd % 9 == 8) = true := by simpa using ho
    rw [if_pos ho] at hmz
    have hw1 : IntKind.i64.wrap ((S : Int) + 1) = m := by rw [IntKind.wrap_i64]; omega
    clear ho hmz
    go_enter Tryz.func5, Tryz.ntmps5
    go_wp2_with fail
    refine (hP1.out _).mono ?_
    rintro e w1 ⟨rfl, rfl⟩
    go_wp2_with fail
    refine (hP2.out _).mono ?_
    rintro e w1 ⟨rfl, rfl⟩
    go_wp2_with fail
    refine hR.out.mono ?_
    rintro e w1 ⟨r, rfl, hr, hb⟩
    go_wp2_with fail
    go_ret2
    exact ⟨_, rfl, hr, hb⟩
  · have t1 : (odd % 9 == 8) = false := by simpa using ho
    rw [if_neg ho] at hmz
    have hw1 : (m : Int) = S := by omega
    obtain rfl : m = S := by omega
    clear ho hmz hw1
    go_enter Tryz.func5, Tryz.ntmps5
    go_wp2_with fail
    refine (hP1.out _).mono ?_
    rintro e w1 ⟨rfl, rfl⟩
    go_wp2_with fail
    refine (hP2.out _).mono ?_
    rintro e w1 ⟨rfl, rfl⟩
    go_wp2_with fail
    refine hR.out.mono ?_
    rintro e w1 ⟨r, rfl, hr, hb⟩
    go_wp2_with fail
    go_ret2
    exact ⟨_, rfl, hr, hb⟩
/-- the column that comes at a place -/
def ordX (lo : List Int) (k i : Nat) : Nat := if i < lo.length then (lo.getD i 0 % (k : Int)).toNat else i
def ordL (lo : List Int) (k i : Nat) : List Nat := (List.range i).map (ordX lo k)
theorem ordL_len (lo : List Int) (k i : Nat) : (ordL lo k i).length = i := by simp [ordL]
theorem ordL_succ (lo : List Int) (k i : Nat) : ordL lo k (i + 1) = ordL lo k i ++ [ordX lo k i] := by simp [ordL, List.range_succ]
theorem ordX_lt {lo : List Int} {k i : Nat} (hi : i < k) : ordX lo k i < k := by
  unfold ordX
  split
  · have h1 := Int.emod_nonneg (lo.getD i 0) (show (k : Int) ≠ 0 by omega)
    have h2 := Int.emod_lt_of_pos (lo.getD i 0) (show (0 : Int) < k by omega)
    omega
  · exact hi
theorem ordL_lt {lo : List Int} {k : Nat} : ∀ c, c ∈ ordL lo k k → c < k := by
  intro c hc
  simp only [ordL, List.mem_map, List.mem_range] at hc
  obtain ⟨i, hi, rfl⟩ := hc
  exact ordX_lt hi
theorem nodup_snoc {l : List Nat} {x : Nat} : (l ++ [x]).Nodup ↔ l.Nodup ∧ ∀ t, t < l.length → l.getD t 0 ≠ x := by
  rw [List.nodup_append]
  constructor
  · rintro ⟨h1, -, h3⟩
    exact ⟨h1, fun t ht => h3 _ (by rw [List.getD_eq_getElem?_getD, List.getElem?_eq_getElem ht]; exact List.getElem_mem ht) _ (by simp)⟩
  · rintro ⟨h1, h2⟩
    refine ⟨h1, by simp, fun a ha b hb => ?_⟩
    obtain ⟨t, ht, rfl⟩ := List.mem_iff_getElem.1 ha
    have := h2 t ht
    rw [List.getD_eq_getElem?_getD, List.getElem?_eq_getElem ht] at this
    simp at hb
    subst hb
    exact this
theorem cols_odd : ∀ k, k < 5 → 1 ≤ k → cols (2 ^ k + 1) = 0 := by decide
end Go.Proofs.YtjfkniknmkcdcaaGreatDoor
