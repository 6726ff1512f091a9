/- The walks of hand's R, Row, InRow. -/
import Derived.Test.YtjfkniknmkcdcaaGreatDoorMHa
import Derived.Test.YtjfkniknmkcdcaaGreatDoorMPk
namespace Go.Proofs.YtjfkniknmkcdcaaGreatDoor
open Go.RowKit K Nu

theorem getD_mem' {l : List Rat} {i : Nat} (h : i < l.length) : l.getD i 0 ∈ l := by
  rw [List.getD_eq_getElem?_getD, List.getElem?_eq_getElem h]; exact List.getElem_mem h
theorem NatV.grown {w w' : World} {u v : Value} {m : Nat} {base size n : Nat} {e : TypeId} {xs : List Value} (h : NatV w u m) (hown : w.ownsRow base e size v n xs) (hno : NoInt w v) (hg : w.grownBy w' v.ownBlock) : NatV w' u m := by
  obtain ⟨l, h1, h2⟩ := h
  exact ⟨l, h1, h2.grown hown hno hg⟩
theorem RN.grown {w w' : World} {u v : Value} {m : Nat} {base size n : Nat} {e : TypeId} {xs : List Value} (h : RN w u m) (hown : w.ownsRow base e size v n xs) (hno : NoInt w v) (hg : w.grownBy w' v.ownBlock) : RN w' u m := by
  obtain ⟨l, h1, h2⟩ := h
  exact ⟨l, h1, h2.grown hown hno hg⟩
theorem QV.grown {w w' : World} {b : Bool} {u u' v : Value} {q : Rat} {base size n : Nat} {e : TypeId} {xs : List Value} (h : QV w b u u' q) (hown : w.ownsRow base e size v n xs) (hno : NoInt w v) (hg : w.grownBy w' v.ownBlock) : QV w' b u u' q :=
  ⟨⟨h.1.1.grown hown hno hg, h.1.2⟩, h.2.grown hown hno hg⟩
theorem RQ.grown {w w' : World} {b : Bool} {u u' v : Value} {q : Rat} {base size n : Nat} {e : TypeId} {xs : List Value} (h : RQ w b u u' q) (hown : w.ownsRow base e size v n xs) (hno : NoInt w v) (hg : w.grownBy w' v.ownBlock) : RQ w' b u u' q :=
  ⟨⟨h.1.1.grown hown hno hg, h.1.2⟩, h.2.grown hown hno hg⟩
theorem RQ.below {B : Nat} {w w' : World} {b : Bool} {vn vr : Value} {q : Rat} (h : RQ w b vn vr q) (hb : Below B w w') (hB : w.heap.size ≤ B) : RQ w' b vn vr q :=
  ⟨⟨h.1.1.below hb hB, h.1.2⟩, h.2.below hb hB⟩
theorem QV.alloc {w : World} {b : Bool} {vn vr : Value} {q : Rat} (h : QV w b vn vr q) (o : Obj) : QV (w.alloc o) b vn vr q := h.below ((Below.refl _ _).alloc (Nat.le_refl _) o) (Nat.le_refl _)
theorem RQ.alloc {w : World} {b : Bool} {vn vr : Value} {q : Rat} (h : RQ w b vn vr q) (o : Obj) : RQ (w.alloc o) b vn vr q := h.below ((Below.refl _ _).alloc (Nat.le_refl _) o) (Nat.le_refl _)
theorem QV.slices {w : World} {b : Bool} {vn vr : Value} {q : Rat} (h : QV w b vn vr q) : ∃ A1 k1 c1 A2 k2 c2, vn = .slice A1 k1 c1 ∧ vr = .slice A2 k2 c2 := by
  obtain ⟨A1, k1, c1, e1⟩ := h.1.1.slice
  obtain ⟨A2, k2, c2, e2⟩ := h.2.slice
  exact ⟨_, _, _, _, _, _, e1, e2⟩
theorem RQ.slices {w : World} {b : Bool} {vn vr : Value} {q : Rat} (h : RQ w b vn vr q) : ∃ A1 k1 c1 A2 k2 c2, vn = .slice A1 k1 c1 ∧ vr = .slice A2 k2 c2 := by
  obtain ⟨A1, k1, c1, e1⟩ := h.1.1.slice
  obtain ⟨A2, k2, c2, e2⟩ := h.2.slice
  exact ⟨_, _, _, _, _, _, e1, e2⟩

theorem Tryz.infoRQ : (Tryz.prog.info? 55).map (fun i => (i.zero, i.size, i.bytes)) = some (some (.agg #[.bool false, .slice none 0 0, .slice none 0 0]), 3, 56) := by kernel_rfl
theorem Tryz.infoQ : (Tryz.prog.info? 40).map (fun i => (i.zero, i.size, i.bytes)) = some (some (.agg #[.bool false, .slice none 0 0, .slice none 0 0]), 3, 56) := by kernel_rfl
theorem z3_no : ∀ y, y ∈ (Value.agg #[.bool false, .slice none 0 0, .slice none 0 0]).cells.toList → ∀ k q, y ≠ .int k q := by
  intro y hy; simp [Value.cells] at hy; rcases hy with rfl | rfl <;> simp

set_option maxRecDepth 100000 in
set_option maxHeartbeats 2000000 in
theorem inRow_any (v : Value) (qs : List Rat) (w : World) (h : Row3 RQ w v qs) (hs : ∀ q, q ∈ qs → Short q) (hl : qs.length ≤ 4096) :
    Calls Tryz.prog 8 #[v] w fun e w' => ∃ r, e = .returned r ∧ Row3 QV w' r qs ∧ Below w.heap.size w w' := by
  obtain ⟨A, c, rfl, hlc, hcm, hat⟩ := h.at
  obtain ⟨L, hL⟩ : ∃ L, qs.length = L := ⟨_, rfl⟩
  have HL := Lib.hid hL
  rw [hL] at hlc hl hat ⊢
  obtain ⟨i0, hi, hz0, hz1, hz2⟩ := info_parts Tryz.infoQ
  clear hL
  go_enter Tryz.func8, Tryz.ntmps8
  go_wp2
  go_loopw [3, 4] (fun o i wr => ∃ (k : Nat) (ts : List T3), k ≤ L ∧ i = .int .i64 k ∧ Hid (ts.length = k) ∧ wr.ownsRow w.heap.size 40 3 o k (flat ts) ∧ NoInt wr o ∧ Hid (∀ (i : Nat) (t : T3) (q : Rat), ts[i]? = some t → qs[i]? = some q → QV wr t.1 t.2.1 t.2.2 q) ∧ Below w.heap.size w wr) (fun _ i _ => L - (intOf i).toNat)
  case atStart => exact ⟨0, [], by omega, rfl, Lib.hid rfl, World.ownsRow_nil _ _ _ _, NoInt.nil _, Lib.hid (by simp), Below.refl _ _⟩
  case round =>
    obtain ⟨k, ts, hk, rfl, hts, hown, hno, hq, hbel⟩ := hrel
    by_cases hlt : k < L
    · obtain ⟨b, off, bb, u, u', rfl, hb, x0, x1, x2, hQ⟩ := hat k hlt
      have y0 := (hbel.cell (p := ⟨b, off + k * 3, none⟩) hb).trans x0
      have y1 := (hbel.cell (p := ⟨b, off + k * 3 + 1, none⟩) hb).trans x1
      have y2 := (hbel.cell (p := ⟨b, off + k * 3 + 2, none⟩) hb).trans x2
      have hI := Lib.hid (in_any bb u u' (qs.getD k 0) _ (hQ.below hbel (Nat.le_refl _)) (hs _ (getD_mem' (by rw [HL.out]; exact hlt))))
      clear hQ x0 x1 x2
      go_wp2_with fail
      refine hI.out.mono ?_
      rintro e w1 ⟨b', vn, vr, rfl, hv, hb1⟩
      obtain ⟨A1, k1, c1, A2, k2, c2, rfl, rfl⟩ := hv.slices
      have hbel1 := hbel.trans (hb1.mono hbel.size)
      have hown1 := own_below hown hb1
      have hno1 := noint_below hown hno hb1
      go_wp2_with ((at_builtin; refine wpList_append_noint rfl _ _ 29 rfl w.heap.size 40 i0 (.agg #[.bool false, .slice none 0 0, .slice none 0 0]) 3 56 Tryz.underlying29 hi hz0 hz1 hz2 rfl (by decide) _ _ _ rfl (hown1.alloc _) (noint_alloc hown1 hno1 _) z3_no ⟨w1.heap.size, 0, none⟩ 1 1 [.bool b', .slice A1 k1 c1, .slice A2 k2 c2] rfl rfl ?c1 ?c2 ?c3 (by decide) ?c4 ?c5 ?c6 ?_))
      case c1 => intro t u hu; rcases t with _ | _ | _ | t <;> simp at hu <;> subst hu <;> simp [Addr.add]
      case c2 => intro u hu; simp at hu; rcases hu with rfl | rfl | rfl <;> rfl
      case c3 => intro u hu; simp at hu; rcases hu with rfl | rfl | rfl <;> simp
      case c4 => unfold maxLen; omega
      case c5 => omega
      case c6 => simp; have := hb1.size; have := hbel.size; omega
      intro v' w2 hown' hgrow hno'
      have hbel2 : Below w.heap.size w w2 := (hbel1.alloc hbel1.size _).grown hgrow (by simp; have := hbel1.size; omega) (fun q hq => by have := (hown1.lt q hq).1; omega)
      have hq2 : ∀ (i : Nat) (t : T3) (q : Rat), (ts ++ [(b', .slice A1 k1 c1, .slice A2 k2 c2)])[i]? = some t → qs[i]? = some q → QV w2 t.1 t.2.1 t.2.2 q :=
        facts_snoc (fun i t q ht hqi => (((hq.out i t q ht hqi).below hb1 (Nat.le_refl _)).alloc _).grown (hown1.alloc _) (noint_alloc hown1 hno1 _) hgrow) (fun q hqq => by
          rw [hts.out, List.getElem?_eq_getElem (by rw [HL.out]; exact hlt)] at hqq
          simp only [Option.some.injEq] at hqq
          rw [List.getD_eq_getElem?_getD, List.getElem?_eq_getElem (by rw [HL.out]; exact hlt), Option.getD_some, hqq] at hv
          exact (hv.alloc _).grown (hown1.alloc _) (noint_alloc hown1 hno1 _) hgrow)
      have hown2 : w2.ownsRow w.heap.size 40 3 v' (k + 1) (flat (ts ++ [(b', .slice A1 k1 c1, .slice A2 k2 c2)])) := by rw [flat_append]; exact hown'
      have HQ2 := Lib.hid hq2
      clear hq2 hown' hgrow hown1 hno1 hv hb1 hbel1 hbel hown hno hq
      go_wp2
      go_roundw
      case rel => exact ⟨k + 1, _, by omega, by go_num, Lib.hid (by simp [hts.out]), hown2, hno', HQ2, hbel2⟩
      case measure => simp [intOf]; omega
    · obtain rfl : k = L := by omega
      go_wp2
      go_ret
      exact ⟨_, rfl, own_row3 hown (by rw [HL.out]) (by rw [hts.out, HL.out]) hq.out, hbel⟩
end Go.Proofs.YtjfkniknmkcdcaaGreatDoor
