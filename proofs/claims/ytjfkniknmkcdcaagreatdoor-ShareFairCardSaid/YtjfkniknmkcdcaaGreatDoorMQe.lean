/- The walk of frac: by. (printed by wip/gen/qe.py) -/
import Derived.Test.YtjfkniknmkcdcaaGreatDoorMQd
import Derived.Test.YtjfkniknmkcdcaaGreatDoorMPk
namespace Go.Proofs.YtjfkniknmkcdcaaGreatDoor
open Go.RowKit K Nu

abbrev zI : Obj := .cells #[.bool false, .slice none 0 0] 38
theorem new1 {X w1 : World} {k : Nat} (hk : X.heap.size = k) (hb : Below (X.alloc zI).drew.heap.size (X.alloc zI).drew w1) : Blk w1 k [.bool false, .slice none 0 0] 38 := by
  subst hk; exact Blk.below ((Blk.new X _ _).drew) hb (by show _ < (X.alloc zI).heap.size; simp)
theorem new2a {X w1 : World} {k : Nat} (hk : X.heap.size = k) (hb : Below ((X.alloc zI).alloc zI).drew.heap.size ((X.alloc zI).alloc zI).drew w1) : Blk w1 k [.bool false, .slice none 0 0] 38 := by
  subst hk; exact Blk.below (((Blk.new X _ _).alloc _).drew) hb (by show _ < ((X.alloc zI).alloc zI).heap.size; simp; omega)
theorem new2b {X w1 : World} {k : Nat} (hk : X.heap.size = k) (hb : Below ((X.alloc zI).alloc zI).drew.heap.size ((X.alloc zI).alloc zI).drew w1) : Blk w1 (k + 1) [.bool false, .slice none 0 0] 38 := by
  subst hk; exact Blk.below ((Blk.mk (X.alloc zI) _ (by simp) _ _).drew) hb (by show _ < ((X.alloc zI).alloc zI).heap.size; simp)
theorem nod1 {X w1 : World} {k : Nat} (hk : X.heap.size = k) (hb : Below (X.alloc zI).heap.size (X.alloc zI) w1) : Blk w1 k [.bool false, .slice none 0 0] 38 := by
  subst hk; exact Blk.below (Blk.new X _ _) hb (by show _ < (X.alloc zI).heap.size; simp)
theorem nod2a {X w1 : World} {k : Nat} (hk : X.heap.size = k) (hb : Below ((X.alloc zI).alloc zI).heap.size ((X.alloc zI).alloc zI) w1) : Blk w1 k [.bool false, .slice none 0 0] 38 := by
  subst hk; exact Blk.below ((Blk.new X _ _).alloc _) hb (by show _ < ((X.alloc zI).alloc zI).heap.size; simp; omega)
theorem nod2b {X w1 : World} {k : Nat} (hk : X.heap.size = k) (hb : Below ((X.alloc zI).alloc zI).heap.size ((X.alloc zI).alloc zI) w1) : Blk w1 (k + 1) [.bool false, .slice none 0 0] 38 := by
  subst hk; exact Blk.below (Blk.mk (X.alloc zI) _ (by simp) _ _) hb (by show _ < ((X.alloc zI).alloc zI).heap.size; simp)
theorem Blk.set2 {w : World} {g : Nat} {a b a' b' : Value} {T : TypeId} (h : Blk w g [a, b] T) : Blk ((w.setCell ⟨g, 0, none⟩ a').setCell ⟨g, 1, none⟩ b') g [a', b'] T := (h.set 0 a').set 1 b'
theorem Blk.far2 {w : World} {g h : Nat} {l : List Value} {a b : Value} {T : TypeId} (k : Blk w g l T) (hn : g ≠ h) : Blk ((w.setCell ⟨h, 0, none⟩ a).setCell ⟨h, 1, none⟩ b) g l T := (k.far (a := ⟨h, 0, none⟩) hn a).far (a := ⟨h, 1, none⟩) hn b
theorem Below.set2 {B g : Nat} {w w' : World} {a b : Value} (k : Below B w w') (hn : B ≤ g) : Below B w ((w'.setCell ⟨g, 0, none⟩ a).setCell ⟨g, 1, none⟩ b) := (k.setCell hn _).setCell hn _
theorem NatV.alloc {w : World} {v : Value} {n : Nat} (h : NatV w v n) (o : Obj) : NatV (w.alloc o) v n := h.below ((Below.refl _ _).alloc (Nat.le_refl _) o) (Nat.le_refl _)
theorem NatV.box2 {w : World} {v : Value} {n g : Nat} {a b a' b' : Value} {T : TypeId} (h : NatV w v n) (hg : Blk w g [a, b] T) (hno : ∀ x, x ∈ [a, b] → ∀ q, x ≠ .int .u64 q) (hno' : ∀ x, x ∈ [a', b'] → ∀ q, x ≠ .int .u64 q) :
    NatV ((w.setCell ⟨g, 0, none⟩ a').setCell ⟨g, 1, none⟩ b') v n :=
  (h.box hg hno 0 a').box (hg.set 0 a') (by simp at hno hno' ⊢; grind) 1 b'

set_option maxRecDepth 100000 in
set_option maxHeartbeats 20000000 in
theorem by_any (b : Bool) (v1 v2 : Value) (z : Int) (d : Nat) (w : World) (h : IntV w b v1 z) (h2 : NatV w v2 d) (hd0 : d ≠ 0) (hdv : z.natAbs % d = 0) (hs : bl z.natAbs ≤ 1073741824) (hs2 : bl d ≤ 4611686018427387904) :
    Calls Tryz.prog 58 #[.agg #[.bool b, v1], .agg #[v2]] w fun e w' => ∃ v, e = .returned (.agg #[.bool (decide (z / (d : Int) < 0)), v]) ∧ IntV w' (decide (z / (d : Int) < 0)) v (z / (d : Int)) ∧ Below w.heap.size w w' := by
  obtain ⟨h1, hb⟩ := h
  obtain ⟨A1, k1, c1, rfl⟩ := h1.slice
  obtain ⟨A2, k2, c2, rfl⟩ := h2.slice
  have p0_0 := Lib.hid ((((Blk.mk w (w.heap.size) rfl [.bool b, .slice A1 k1 c1] 38).alloc (.cells #[.slice A2 k2 c2] 36)).alloc (.cells #[.bool false, .slice none 0 0] 38)))
  have p1_0 := Lib.hid (((Blk.mk (w.alloc (.cells #[.bool b, .slice A1 k1 c1] 38)) (w.heap.size + 1) (by simp) [.slice A2 k2 c2] 36).alloc (.cells #[.bool false, .slice none 0 0] 38)))
  have p2_0 := Lib.hid ((Blk.mk ((w.alloc (.cells #[.bool b, .slice A1 k1 c1] 38)).alloc (.cells #[.slice A2 k2 c2] 36)) (w.heap.size + 2) (by simp) [.bool false, .slice none 0 0] 38))
  have bel_0 := Lib.hid (show Below w.heap.size w (((w.alloc (.cells #[.bool b, .slice A1 k1 c1] 38)).alloc (.cells #[.slice A2 k2 c2] 36)).alloc (.cells #[.bool false, .slice none 0 0] 38)) by (repeat (first | assumption | exact Below.refl _ _ | refine Below.drew ?_ | refine Below.setCell ?_ (by simp <;> omega) _ | refine Below.alloc ?_ (by simp <;> omega) _)))
  have ne2 : ¬ w.heap.size + 1 + 1 = w.heap.size := by omega
  have en2 : ¬ w.heap.size = w.heap.size + 1 + 1 := by omega
  have h1_0 := Lib.hid (h1.below bel_0.out (Nat.le_refl _))
  have h2_0 := Lib.hid (h2.below bel_0.out (Nat.le_refl _))
  have kW : (((w.alloc (.cells #[.bool b, .slice A1 k1 c1] 38)).alloc (.cells #[.slice A2 k2 c2] 36)).alloc (.cells #[.bool false, .slice none 0 0] 38)).heap.size = w.heap.size + 1 + 1 + 1 := by simp
  have sk00 : (((((w.alloc (.cells #[.bool b, .slice A1 k1 c1] 38)).alloc (.cells #[.slice A2 k2 c2] 36)).alloc (.cells #[.bool false, .slice none 0 0] 38)).alloc zI).alloc zI).drew.cell? ⟨w.heap.size, 0, none⟩ = some (.bool b) := (((p0_0.out.alloc _).alloc _).drew).cell 0
  have sk01 : (((((w.alloc (.cells #[.bool b, .slice A1 k1 c1] 38)).alloc (.cells #[.slice A2 k2 c2] 36)).alloc (.cells #[.bool false, .slice none 0 0] 38)).alloc zI).alloc zI).drew.cell? ⟨w.heap.size, 1, none⟩ = some (.slice A1 k1 c1) := (((p0_0.out.alloc _).alloc _).drew).cell 1
  have sk10 : (((((w.alloc (.cells #[.bool b, .slice A1 k1 c1] 38)).alloc (.cells #[.slice A2 k2 c2] 36)).alloc (.cells #[.bool false, .slice none 0 0] 38)).alloc zI).alloc zI).drew.cell? ⟨w.heap.size + 1, 0, none⟩ = some (.slice A2 k2 c2) := (((p1_0.out.alloc _).alloc _).drew).cell 0
  have nz3 : ¬ w.heap.size + 1 + 1 + 1 = w.heap.size := by omega
  have zn3 : ¬ w.heap.size = w.heap.size + 1 + 1 + 1 := by omega
  have nz4 : ¬ w.heap.size + 1 + 1 + 1 + 1 = w.heap.size := by omega
  have zn4 : ¬ w.heap.size = w.heap.size + 1 + 1 + 1 + 1 := by omega
  have hF := Lib.hid (fun (wd : World) (hc : NatV wd (.slice A2 k2 c2) d) => from_false _ d wd hc hs2)
  have hD := Lib.hid (fun (wd : World) (ha : NatV wd (.slice A1 k1 c1) z.natAbs) (hc : NatV wd (.slice A2 k2 c2) d) => whDiv_dvd b false _ _ z (d : Int) wd ⟨ha, hb⟩ ⟨hc, by simp⟩ (by omega) hdv hs)
  obtain ⟨sg, hsg⟩ : ∃ sg, decide (z / (d : Int) < 0) = sg := ⟨_, rfl⟩
  rw [hsg] at hD ⊢
  have HB := Lib.hid hb
  have HSG := Lib.hid hsg
  clear hsg hb
  go_enter Tryz.func58, Tryz.ntmps58
  go_upto_region 2 with fail
  go_cut [5] (fun a wc => ∃ (p : Nat) (A3 : Option Addr) (k3 c3 : Nat), a = .pointer (some ⟨p, 0, none⟩) ∧ w.heap.size + 2 < p ∧ Blk wc p [.bool sg, .slice A3 k3 c3] 38 ∧ NatV wc (.slice A3 k3 c3) (z / (d : Int)).natAbs ∧ Blk wc (w.heap.size + 2) [.bool false, .slice none 0 0] 38 ∧ Below w.heap.size w wc)
  case first =>
    go_region_held3 (fun w' => w'.cell? ⟨w.heap.size, 0, none⟩ = some (.bool b) ∧ w'.cell? ⟨w.heap.size, 1, none⟩ = some (.slice A1 k1 c1) ∧ w'.cell? ⟨w.heap.size + 1, 0, none⟩ = some (.slice A2 k2 c2)) (go_keep)
      (first
        | ((go_at_call 96; refine (hD.out _ ?hs1 ?hs2).mono ?_; (case hs1 => exact h1_1.out.below (by ((repeat (first | with_reducible exact Below.refl _ _ | with_reducible refine Below.drew ?_ | with_reducible refine Below.alloc' ?_ _)); done)) (Nat.le_refl _)); (case hs2 => exact h2_1.out.below (by ((repeat (first | with_reducible exact Below.refl _ _ | with_reducible refine Below.drew ?_ | with_reducible refine Below.alloc' ?_ _)); done)) (Nat.le_refl _)); rintro e w_2 ⟨v, r, rfl, hv, hr, hb_2⟩; have hx_2 : Below w_1.heap.size w_1 w_2 := bel_step hb_2 (by ((repeat (first | with_reducible exact Below.refl _ _ | with_reducible refine Below.drew ?_ | with_reducible refine Below.alloc' ?_ _)); done)); have hv1 := hv.1; have HVS := Lib.hid hv.2; clear hv; obtain ⟨A3, k3, c3, rfl⟩ := hv1.slice; obtain ⟨A4, k4, c4, rfl⟩ := hr.slice; have c0_0_2 : w_2.cell? ⟨w.heap.size, 0, none⟩ = some (.bool b) := (p0_1.out.below hx_2 p0_1.out.lt).cell 0; have c0_1_2 : w_2.cell? ⟨w.heap.size, 1, none⟩ = some (.slice A1 k1 c1) := (p0_1.out.below hx_2 p0_1.out.lt).cell 1; have c1_0_2 : w_2.cell? ⟨w.heap.size + 1, 0, none⟩ = some (.slice A2 k2 c2) := (p1_1.out.below hx_2 p1_1.out.lt).cell 0; have p0_2 := Lib.hid (p0_1.out.below hx_2 p0_1.out.lt); have p1_2 := Lib.hid (p1_1.out.below hx_2 p1_1.out.lt); have p2_2 := Lib.hid (p2_1.out.below hx_2 p2_1.out.lt); have h1_2 := Lib.hid (h1_1.out.below hx_2 (Nat.le_refl _)); have h2_2 := Lib.hid (h2_1.out.below hx_2 (Nat.le_refl _)); have bel_2 := Lib.hid (bel_1.out.trans (hx_2.mono bel_1.out.size)); have lw_2 : w.heap.size + 2 < w_2.heap.size := p2_2.out.lt; have nq2_1 : ¬ w_2.heap.size = w.heap.size := ne_hi 0 lw_2 (by decide); have qn2_1 : ¬ w.heap.size = w_2.heap.size := ne_lo 0 lw_2 (by decide); have nq2_2 : ¬ w_2.heap.size = w.heap.size + 1 := ne_hi 1 lw_2 (by decide); have qn2_2 : ¬ w.heap.size + 1 = w_2.heap.size := ne_lo 1 lw_2 (by decide); have nq2_3 : ¬ w_2.heap.size = w.heap.size + 1 + 1 := ne_hi 2 lw_2 (by decide); have qn2_3 : ¬ w.heap.size + 1 + 1 = w_2.heap.size := ne_lo 2 lw_2 (by decide); have nq2_4 : ¬ w_2.heap.size + 1 = w.heap.size := ne_hi1 0 lw_2 (by decide); have qn2_4 : ¬ w.heap.size = w_2.heap.size + 1 := ne_lo1 0 lw_2 (by decide); have nq2_5 : ¬ w_2.heap.size + 1 = w.heap.size + 1 := ne_hi1 1 lw_2 (by decide); have qn2_5 : ¬ w.heap.size + 1 = w_2.heap.size + 1 := ne_lo1 1 lw_2 (by decide); have nq2_6 : ¬ w_2.heap.size + 1 = w.heap.size + 1 + 1 := ne_hi1 2 lw_2 (by decide); have qn2_6 : ¬ w.heap.size + 1 + 1 = w_2.heap.size + 1 := ne_lo1 2 lw_2 (by decide); (first | (have u5 := nod2a rfl hb_2; have u6 := nod2b rfl hb_2; have u5a : w_2.cell? ⟨w_1.heap.size, 0, none⟩ = some (.bool false) := u5.cell 0; have u5b : w_2.cell? ⟨w_1.heap.size, 1, none⟩ = some (.slice none 0 0) := u5.cell 1; have u5c := u5.frozen 0; have u5d := u5.frozen 1; have u5e := u5.lt; have u6a : w_2.cell? ⟨w_1.heap.size + 1, 0, none⟩ = some (.bool false) := u6.cell 0; have u6b : w_2.cell? ⟨w_1.heap.size + 1, 1, none⟩ = some (.slice none 0 0) := u6.cell 1; have u6c := u6.frozen 0; have u6d := u6.frozen 1; have u6e := u6.lt) | (have u5 := nod1 rfl hb_2; have u5a : w_2.cell? ⟨w_1.heap.size, 0, none⟩ = some (.bool false) := u5.cell 0; have u5b : w_2.cell? ⟨w_1.heap.size, 1, none⟩ = some (.slice none 0 0) := u5.cell 1; have u5c := u5.frozen 0; have u5d := u5.frozen 1; have u5e := u5.lt) | skip); (first | (have u3x : Blk w_2 (w.heap.size + 1 + 1 + 1) [.bool false, .slice none 0 0] 38 := u3.below hx_2 u3.lt; have u3xa : w_2.cell? ⟨w.heap.size + 1 + 1 + 1, 0, none⟩ = some (.bool false) := u3x.cell 0; have u3xb : w_2.cell? ⟨w.heap.size + 1 + 1 + 1, 1, none⟩ = some (.slice none 0 0) := u3x.cell 1; have u3xc := u3x.frozen 0; have u3xd := u3x.frozen 1; have u3xe := u3x.lt) | skip); (first | (have u4x : Blk w_2 (w.heap.size + 1 + 1 + 1 + 1) [.bool false, .slice none 0 0] 38 := u4.below hx_2 u4.lt; have u4xa : w_2.cell? ⟨w.heap.size + 1 + 1 + 1 + 1, 0, none⟩ = some (.bool false) := u4x.cell 0; have u4xb : w_2.cell? ⟨w.heap.size + 1 + 1 + 1 + 1, 1, none⟩ = some (.slice none 0 0) := u4x.cell 1; have u4xc := u4x.frozen 0; have u4xd := u4x.frozen 1; have u4xe := u4x.lt) | skip)))
        | ((go_at_call 40; refine (hF.out _ ?hs1).mono ?_; (case hs1 => exact h2_0.out.below (by ((repeat (first | with_reducible exact Below.refl _ _ | with_reducible refine Below.drew ?_ | with_reducible refine Below.alloc' ?_ _)); done)) (Nat.le_refl _)); rintro e w_1 ⟨rfl, hb_1⟩; have hx_1 : Below (((w.alloc (.cells #[.bool b, .slice A1 k1 c1] 38)).alloc (.cells #[.slice A2 k2 c2] 36)).alloc (.cells #[.bool false, .slice none 0 0] 38)).heap.size (((w.alloc (.cells #[.bool b, .slice A1 k1 c1] 38)).alloc (.cells #[.slice A2 k2 c2] 36)).alloc (.cells #[.bool false, .slice none 0 0] 38)) w_1 := bel_step hb_1 (by ((repeat (first | with_reducible exact Below.refl _ _ | with_reducible refine Below.drew ?_ | with_reducible refine Below.alloc' ?_ _)); done)); have c0_0_1 : w_1.cell? ⟨w.heap.size, 0, none⟩ = some (.bool b) := (p0_0.out.below hx_1 p0_0.out.lt).cell 0; have c0_1_1 : w_1.cell? ⟨w.heap.size, 1, none⟩ = some (.slice A1 k1 c1) := (p0_0.out.below hx_1 p0_0.out.lt).cell 1; have c1_0_1 : w_1.cell? ⟨w.heap.size + 1, 0, none⟩ = some (.slice A2 k2 c2) := (p1_0.out.below hx_1 p1_0.out.lt).cell 0; have p0_1 := Lib.hid (p0_0.out.below hx_1 p0_0.out.lt); have p1_1 := Lib.hid (p1_0.out.below hx_1 p1_0.out.lt); have p2_1 := Lib.hid (p2_0.out.below hx_1 p2_0.out.lt); have h1_1 := Lib.hid (h1_0.out.below hx_1 (Nat.le_refl _)); have h2_1 := Lib.hid (h2_0.out.below hx_1 (Nat.le_refl _)); have bel_1 := Lib.hid (bel_0.out.trans (hx_1.mono bel_0.out.size)); have lw_1 : w.heap.size + 2 < w_1.heap.size := p2_1.out.lt; have nq1_1 : ¬ w_1.heap.size = w.heap.size := ne_hi 0 lw_1 (by decide); have qn1_1 : ¬ w.heap.size = w_1.heap.size := ne_lo 0 lw_1 (by decide); have nq1_2 : ¬ w_1.heap.size = w.heap.size + 1 := ne_hi 1 lw_1 (by decide); have qn1_2 : ¬ w.heap.size + 1 = w_1.heap.size := ne_lo 1 lw_1 (by decide); have nq1_3 : ¬ w_1.heap.size = w.heap.size + 1 + 1 := ne_hi 2 lw_1 (by decide); have qn1_3 : ¬ w.heap.size + 1 + 1 = w_1.heap.size := ne_lo 2 lw_1 (by decide); have nq1_4 : ¬ w_1.heap.size + 1 = w.heap.size := ne_hi1 0 lw_1 (by decide); have qn1_4 : ¬ w.heap.size = w_1.heap.size + 1 := ne_lo1 0 lw_1 (by decide); have nq1_5 : ¬ w_1.heap.size + 1 = w.heap.size + 1 := ne_hi1 1 lw_1 (by decide); have qn1_5 : ¬ w.heap.size + 1 = w_1.heap.size + 1 := ne_lo1 1 lw_1 (by decide); have nq1_6 : ¬ w_1.heap.size + 1 = w.heap.size + 1 + 1 := ne_hi1 2 lw_1 (by decide); have qn1_6 : ¬ w.heap.size + 1 + 1 = w_1.heap.size + 1 := ne_lo1 2 lw_1 (by decide); (first | (have u3 := new2a kW hb_1; have u4 := new2b kW hb_1; have u3a : w_1.cell? ⟨w.heap.size + 1 + 1 + 1, 0, none⟩ = some (.bool false) := u3.cell 0; have u3b : w_1.cell? ⟨w.heap.size + 1 + 1 + 1, 1, none⟩ = some (.slice none 0 0) := u3.cell 1; have u3c := u3.frozen 0; have u3d := u3.frozen 1; have u3e := u3.lt; have u4a : w_1.cell? ⟨w.heap.size + 1 + 1 + 1 + 1, 0, none⟩ = some (.bool false) := u4.cell 0; have u4b : w_1.cell? ⟨w.heap.size + 1 + 1 + 1 + 1, 1, none⟩ = some (.slice none 0 0) := u4.cell 1; have u4c := u4.frozen 0; have u4d := u4.frozen 1; have u4e := u4.lt) | (have u3 := new1 kW hb_1; have u3a : w_1.cell? ⟨w.heap.size + 1 + 1 + 1, 0, none⟩ = some (.bool false) := u3.cell 0; have u3b : w_1.cell? ⟨w.heap.size + 1 + 1 + 1, 1, none⟩ = some (.slice none 0 0) := u3.cell 1; have u3c := u3.frozen 0; have u3d := u3.frozen 1; have u3e := u3.lt) | skip)))
        | ((fail)))
    all_goals (go_wp2_with fail; go_meet)
    all_goals
      clear nq1_1 qn1_1 nq1_2 qn1_2 nq1_3 qn1_3 nq1_4 qn1_4 nq1_5 qn1_5 nq1_6 qn1_6 nq2_1 qn2_1 nq2_2 qn2_2 nq2_3 qn2_3 nq2_4 qn2_4 nq2_5 qn2_5 nq2_6 qn2_6 nz3 zn3 nz4 zn4 ne2 en2 c0_0_1 c0_1_1 c1_0_1 c0_0_2 c0_1_2 c1_0_2 sk00 sk01 sk10 kW
      have P2 := p2_2.out
      have BL := bel_2.out
      refine ⟨_, A3, k3, c3, rfl, ?_, ?_, ?_, ?_, ?_⟩
      · omega
      · ((repeat (first | with_reducible assumption | with_reducible exact Blk.mk _ _ (by (simp; done)) _ _ | with_reducible refine Blk.set2 (a := .bool false) (b := .slice none 0 0) ?_ | with_reducible refine Blk.far2 ?_ (by omega) | with_reducible refine Blk.alloc ?_ _ | with_reducible refine Blk.drew ?_)); done)
      · ((repeat (first | with_reducible assumption | with_reducible refine NatV.box2 (a := .bool false) (b := .slice none 0 0) (T := 38) ?_ (by ((repeat (first | with_reducible assumption | with_reducible exact Blk.mk _ _ (by (simp; done)) _ _ | with_reducible refine Blk.set2 (a := .bool false) (b := .slice none 0 0) ?_ | with_reducible refine Blk.far2 ?_ (by omega) | with_reducible refine Blk.alloc ?_ _ | with_reducible refine Blk.drew ?_)); done)) (by simp) (by simp) | with_reducible refine NatV.alloc ?_ _)); done)
      · ((repeat (first | with_reducible assumption | with_reducible exact Blk.mk _ _ (by (simp; done)) _ _ | with_reducible refine Blk.set2 (a := .bool false) (b := .slice none 0 0) ?_ | with_reducible refine Blk.far2 ?_ (by omega) | with_reducible refine Blk.alloc ?_ _ | with_reducible refine Blk.drew ?_)); done)
      · ((repeat (first | with_reducible assumption | with_reducible refine Below.set2 ?_ (by omega) | with_reducible refine Below.alloc' ?_ _)); done)
  case rest =>
    obtain ⟨p, A3, k3, c3, rfl, hp, P, hv, R, bel⟩ := hcut
    have x0 := P.cell 0
    have x1 := P.cell 1
    have x2 := R.cell 0
    have x3 := R.cell 1
    have x4 := R.frozen 0
    have x5 := R.frozen 1
    have np : ¬ p = w.heap.size + 1 + 1 := by omega
    have pn : ¬ w.heap.size + 1 + 1 = p := by omega
    have HH := Lib.hid (And.intro P (And.intro hv (And.intro R bel)))
    clear P hv R bel
    go_wp2_with fail
    trace_state
    refine bodyPost_ret (v := .agg #[.bool sg, .slice A3 k3 c3]) (by simp [results, Tryz.results58, go_sem, x2, x3]) rfl ?_
    exact ⟨_, rfl, ⟨HH.out.2.1.box2 HH.out.2.2.1 (by simp) (by simp), HSG.out.symm⟩, (HH.out.2.2.2.setCell (by simp <;> omega) _).setCell (by simp <;> omega) _⟩

end Go.Proofs.YtjfkniknmkcdcaaGreatDoor
