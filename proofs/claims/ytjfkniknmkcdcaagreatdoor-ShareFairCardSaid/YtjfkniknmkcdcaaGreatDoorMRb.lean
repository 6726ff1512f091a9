/- The walks of the document's NatDiv, NatGcd (short numbers), NatBits. -/
import Derived.Test.YtjfkniknmkcdcaaGreatDoorMRa
import Derived.Test.YtjfkniknmkcdcaaGreatDoorMNj
namespace Go.Proofs.YtjfkniknmkcdcaaGreatDoor
open Go.RowKit K Nu

set_option maxRecDepth 100000 in
set_option maxHeartbeats 2000000 in
theorem natDiv_any (v1 v2 : Value) (n d : Nat) (w : World) (h1 : RN w v1 n) (h2 : RN w v2 d) (hn : n < 4294967296) (hd : d ≠ 0) (hd1 : d < 4294967296) :
    Calls Tryz.prog 82 #[v1, v2] w fun e w' => ∃ q r, e = .returned (.tuple #[q, r]) ∧ RN w' q (n / d) ∧ RN w' r (n % d) ∧ Below w.heap.size w w' := by
  have hC := Lib.hid (rcmp_any v1 v2 n d w h1 h2 hn hd1)
  have hO := fun (wd : World) (hb : Below w.heap.size w wd) => one_any v1 n d wd (h1.below hb (Nat.le_refl _)) hn hd hd1
  have hm1 : n % d < d := Nat.mod_lt _ (by omega)
  have H1 := Lib.hid h1
  rcases h2.cases hd1 with ⟨rfl, -⟩ | ⟨-, b2, o2, c2, rfl, hc2, hb2, x2⟩
  · exact absurd rfl hd
  by_cases hlt : n < d
  · have t1 : decide (cmpN n d < 0) = true := by simp [cmpN, hlt]
    have t2 : n / d = 0 := Nat.div_eq_of_lt hlt
    have t3 : n % d = n := Nat.mod_eq_of_lt hlt
    rw [t2, t3]
    clear t2 t3 hlt hm1 hO h1
    generalize cmpN n d = z at *
    go_enter Tryz.func82, Tryz.ntmps82
    go_wp2_with fail
    refine hC.out.mono ?_
    rintro e w1 ⟨rfl, hb⟩
    go_wp2_with fail
    go_ret2
    exact ⟨_, _, rfl, RN.nil _, H1.out.below hb (Nat.le_refl _), hb⟩
  · have t1 : decide (cmpN n d < 0) = false := by
      simp only [cmpN, if_neg hlt]; split <;> decide
    have hm := fun (wd : World) => natOf_any (n % d) wd (by omega)
    obtain ⟨m, hme⟩ : ∃ m, n % d = m := ⟨_, rfl⟩
    obtain ⟨q, hqe⟩ : ∃ q, n / d = q := ⟨_, rfl⟩
    rw [hme, hqe] at hO
    rw [hme] at hm
    rw [hme, hqe]
    have hwm : IntKind.u64.wrap (m : Int) = m := by rw [wrap64u]; omega
    have hO := Lib.hid hO
    have hm := Lib.hid hm
    clear hlt hm1 hme hqe h1
    generalize cmpN n d = z at *
    go_enter Tryz.func82, Tryz.ntmps82
    go_wp2_with fail
    refine hC.out.mono ?_
    rintro e w1 ⟨rfl, hb⟩
    have y2 := (hb.cell (p := ⟨b2, o2, none⟩) hb2).trans x2
    go_wp2_with fail
    refine (hO.out _ hb).mono ?_
    rintro e w2 ⟨r, rfl, hr, hb2'⟩
    have hb3 := hb.trans (hb2'.mono hb.size)
    clear y2
    go_wp2_with fail
    refine (hm.out _).mono ?_
    rintro e w3 ⟨r3, rfl, hr3, hb4⟩
    go_wp2_with fail
    go_ret2
    exact ⟨_, _, rfl, hr.below hb4 (Nat.le_refl _), hr3, hb3.trans (hb4.mono hb3.size)⟩

set_option maxRecDepth 100000 in
set_option maxHeartbeats 2000000 in
theorem natGcd_any (v1 v2 : Value) (x y : Nat) (w : World) (h1 : RN w v1 x) (h2 : RN w v2 y) (hx : x < 4294967296) (hy : y < 4294967296) :
    Calls Tryz.prog 81 #[v1, v2] w fun e w' => ∃ r, e = .returned r ∧ RN w' r (Nat.gcd x y) ∧ Below w.heap.size w w' := by
  have H1 := Lib.hid h1
  have H2 := Lib.hid h2
  clear h1 h2
  obtain ⟨g, hg⟩ : ∃ g, Nat.gcd x y = g := ⟨_, rfl⟩
  rw [hg]
  have HG := Lib.hid hg
  clear hg
  go_enter Tryz.func81, Tryz.ntmps81
  go_wp2_with fail
  go_loopw [0, 1] (fun a b wr => ∃ s t : Nat, Hid (RN wr a s) ∧ Hid (RN wr b t) ∧ Hid (Nat.gcd s t = g) ∧ s < 4294967296 ∧ t < 4294967296 ∧ Hid (Below w.heap.size w wr)) (fun a b wr => match b with | .slice _ k _ => (if k = 0 then 0 else match b with | .slice (some p) _ _ => (match wr.cell? p with | some (.int _ z) => z.toNat | _ => 0) | _ => 0) | _ => 0)
  case atStart => exact ⟨x, y, H1, H2, HG, hx, hy, Lib.hid (Below.refl _ _)⟩
  case round =>
    obtain ⟨s, t, hs, ht, hst, hs1, ht1, hbel⟩ := hrel
    rcases ht.out.cases ht1 with ⟨rfl, A, c, rfl⟩ | ⟨ht0, b2, o2, c2, rfl, hc2, hb2, x2⟩
    · obtain ⟨A1, k1, c1, rfl⟩ := hs.out.slice
      go_wp2_with fail
      go_ret
      have e := hst.out
      rw [Nat.gcd_zero_right] at e
      exact ⟨_, rfl, by rw [← e]; exact hs.out, hbel.out⟩
    · have hD := Lib.hid (natDiv_any _ _ s t _ hs.out ht.out hs1 ht0 ht1)
      have ht2 := Lib.hid ht
      have hm1 := Lib.hid (Nat.mod_lt s (show t > 0 by omega))
      have X2 := Lib.hid x2
      clear hs x2
      go_wp2_with fail
      refine hD.out.mono ?_
      rintro e w1 ⟨q, r, rfl, hq, hr, hb⟩
      have hq2 := Lib.hid hq
      have hr2 := Lib.hid hr
      have hb' := Lib.hid hb
      have h0 := Lib.hid ht0
      clear hq hr hb hD ht0
      go_wp2_with fail
      go_roundw
      case rel => exact ⟨t, s % t, Lib.hid (ht.out.below hb'.out (Nat.le_refl _)), hr2, Lib.hid (by rw [← hst.out, Nat.gcd_comm s t, Nat.gcd_rec t s, Nat.gcd_comm]), ht1, by have := hm1.out; omega, Lib.hid (hbel.out.trans (hb'.out.mono hbel.out.size))⟩
      case measure =>
        have hm2 := hm1.out
        rcases hr2.out.cases (by omega) with ⟨e, A, c, rfl⟩ | ⟨e, b3, o3, c3, rfl, -, -, x3⟩
        · simp only [X2.out, if_true]
          have := h0.out
          simp; omega
        · simp only [X2.out, x3]
          simp; omega
end Go.Proofs.YtjfkniknmkcdcaaGreatDoor
