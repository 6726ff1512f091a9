/- The walks of the dice: New, State, Next, Below, asked, Draw. -/
import Derived.Test.YtjfkniknmkcdcaaProg
import Derived.Test.YtjfkniknmkcdcaaDm
import Derived.Test.YtjfkniknmkcdcaaKit
namespace Go.Proofs.Ytjfkniknmkcdcaa
open Go.RowKit K

theorem Try.info3 : (Try.prog.info? 3).map (fun i => (i.zero, i.size, i.bytes)) = some (some (.int .i64 0), 1, 8) := by kernel_rfl

theorem next_any (g : Nat) (s : Int) (w : World) (hc : w.cell? ⟨g, 0, none⟩ = some (.int .u64 s)) (hf : w.frozen? ⟨g, 0, none⟩ = false) :
    Calls Try.prog 41 #[.pointer (some ⟨g, 0, none⟩)] w fun e w' => e = .returned (.int .u64 (Dm.mx (Dm.nx s))) ∧ w' = w.setCell ⟨g, 0, none⟩ (.int .u64 (Dm.nx s)) := by
  go_enter Try.func41, Try.ntmps41
  go_wp2
  go_ret
  exact ⟨rfl, rfl⟩

theorem new_any (s : Int) (w : World) :
    Calls Try.prog 7 #[.int .u64 s] w fun e w' => e = .returned (.pointer (some ⟨w.heap.size, 0, none⟩)) ∧ w' = w.alloc (.cells #[.int .u64 s] 55) := by
  go_enter Try.func7, Try.ntmps7
  go_wp2
  go_ret
  exact ⟨rfl, rfl⟩

theorem state_any (g : Nat) (s : Int) (w : World) (hc : w.cell? ⟨g, 0, none⟩ = some (.int .u64 s)) :
    Calls Try.prog 14 #[.pointer (some ⟨g, 0, none⟩)] w fun e w' => e = .returned (.int .u64 s) ∧ w = w' := by
  go_enter Try.func14, Try.ntmps14
  go_wp2
  go_ret
  exact ⟨rfl, rfl⟩

set_option maxHeartbeats 400000 in
theorem below_any (g : Nat) (n s : Int) (w : World) (hn : 1 ≤ n) (hn2 : n ≤ 9223372036854775807) (hb : Blk w g [.int .u64 s] 55) :
    Calls Try.prog 27 #[.pointer (some ⟨g, 0, none⟩), .int .i64 n] w fun e w' => e = .returned (.int .i64 (Dm.bv n s)) ∧ w' = w.setCell ⟨g, 0, none⟩ (.int .u64 (Dm.bs n s)) := by
  have hsame : w = w.setCell ⟨g, 0, none⟩ (.int .u64 (Dm.st 0 s)) := hb.set_same.symm
  have HB := Lib.hid hb
  have HS := Lib.hid hsame
  have HR := Lib.hid (Dm.rej_spec s hn hn2)
  have HL := Lib.hid (show Dm.lim n = IntKind.u64.wrap (18446744073709551615 - (IntKind.u64.wrap (-n)).tmod n) from rfl)
  clear hb hsame
  have h1 : ¬ n < 1 := by omega
  go_enter Try.func27, Try.ntmps27
  go_wp2
  go_loopg [6] (Dm.rej n s) (fun gk _ wr => ∃ i : Nat, i + gk = Dm.rej n s ∧ wr = w.setCell ⟨g, 0, none⟩ (.int .u64 (Dm.st i s)))
  case atStart => exact ⟨0, by omega, HS.out⟩
  case round =>
    obtain ⟨i, hi, rfl⟩ := hrel
    have hc : (w.setCell ⟨g, 0, none⟩ (.int .u64 (Dm.st i s))).cell? ⟨g, 0, none⟩ = some (.int .u64 (Dm.st i s)) := (HB.out.set 0 _).one
    have hf : (w.setCell ⟨g, 0, none⟩ (.int .u64 (Dm.st i s))).frozen? ⟨g, 0, none⟩ = false := (HB.out.set 0 _).frozen 0
    have hm := Dm.mx_range (Dm.nx (Dm.st i s))
    have hm1 := hm.1
    by_cases hlt : i < Dm.rej n s
    · have hno : ¬ Dm.mx (Dm.nx (Dm.st i s)) ≤ IntKind.u64.wrap (18446744073709551615 - (IntKind.u64.wrap (-n)).tmod n) := Int.not_le.2 (HR.out.2 i hlt)
      go_wp2_with (go_at_call 41; refine (next_any _ _ _ hc hf).mono ?_; rintro e w' ⟨rfl, rfl⟩)
      obtain ⟨k1, rfl⟩ : ∃ k1, gk = k1 + 1 := ⟨gk - 1, by omega⟩
      go_roundg k1
      case measure => omega
      case rel => exact ⟨i + 1, by omega, set_set _ _ _ _ rfl⟩
    · have hi : i = Dm.rej n s := by omega
      have hyes : Dm.mx (Dm.nx (Dm.st i s)) ≤ IntKind.u64.wrap (18446744073709551615 - (IntKind.u64.wrap (-n)).tmod n) := by rw [hi]; exact HR.out.1
      have HI := Lib.hid hi
      clear hi
      go_wp2_with (go_at_call 41; refine (next_any _ _ _ hc hf).mono ?_; rintro e w' ⟨rfl, rfl⟩)
      go_ret
      have e1 : Dm.bv n s = Dm.mx (Dm.nx (Dm.st i s)) % n := by rw [HI.out]; rfl
      have e2 : Dm.bs n s = Dm.nx (Dm.st i s) := by rw [HI.out]; rfl
      rw [e1, e2]
      have hw : wrap64 (Dm.mx (Dm.nx (Dm.st i s)) % n) = Dm.mx (Dm.nx (Dm.st i s)) % n := by
        have b1 := Int.emod_nonneg (Dm.mx (Dm.nx (Dm.st i s))) (show n ≠ 0 by omega)
        have b2 := Int.emod_lt_of_pos (Dm.mx (Dm.nx (Dm.st i s))) (show 0 < n by omega)
        exact IntWalk.wrap64_in _ ⟨by omega, by omega⟩
      exact ⟨congrArg (fun z => Ending.returned (.int .i64 z)) hw, set_set _ _ _ _ rfl⟩

set_option maxHeartbeats 400000 in
theorem asked_any (g : Nat) (n s : Int) (k : Nat) (w : World) (hn : 1 ≤ n) (hn2 : n ≤ 9223372036854775807) (hk : k ≤ 65536) (hb : Blk w g [.int .u64 s] 55) :
    Calls Try.prog 26 #[.func (.func 27) #[.pointer (some ⟨g, 0, none⟩)] #[], .int .i64 n, .int .i64 k] w fun e w' =>
      e = .returned (.slice (some ⟨w.heap.size, 0, none⟩) k k) ∧ Blk w' w.heap.size (vs .i64 (Dm.dl n k s)) 3 ∧ Blk w' g [.int .u64 (Dm.ds n k s)] 55 ∧ Fr (· = g) w w' := by
  have HB := Lib.hid hb
  clear hb
  have hmk := mk_run (P := Try.prog) Try.underlying27 Try.info3 rfl .i64 .i64 k (by unfold maxLen; omega) (by omega) (vs_replicate (k := .i64) (n := k) (x := 0))
  go_enter Try.func26, Try.ntmps26
  go_wp2
  go_loopw [13] (fun i wr => ∃ j : Nat, j ≤ k ∧ i = .int .i64 j ∧ Blk wr w.heap.size (vs .i64 (Dm.dl n j s ++ List.replicate (k - j) 0)) 3 ∧ Blk wr g [.int .u64 (Dm.ds n j s)] 55 ∧ Fr (· = g) w wr) (fun i _ => k - (intOf i).toNat)
  case atStart => exact ⟨0, by omega, rfl, Blk.new _ _ _, HB.out.alloc _, (Fr.refl _ _).alloc _⟩
  case round =>
    obtain ⟨j, hj, rfl, hB, hg, hF⟩ := hrel
    have HgB := Lib.hid (show w.heap.size ≠ g from fun e => by have := HB.out.lt; omega)
    have hlen : (Dm.dl n j s ++ List.replicate (k - j) 0).length = k := by simp [Dm.dl_length]; omega
    have Hlen := Lib.hid hlen
    clear hlen
    by_cases hlt : j < k
    · have hB1 := hB.far (a := ⟨g, 0, none⟩) HgB.out (.int .u64 (Dm.bs n (Dm.ds n j s)))
      have hc := hB1.at j (by rw [Hlen.out]; exact hlt)
      have hf := hB1.frozen j
      go_wp2_with (go_at_call 27; refine (below_any g n (Dm.ds n j s) _ hn hn2 hg).mono ?_; rintro e w' ⟨rfl, rfl⟩)
      go_roundw
      case rel =>
        refine ⟨j + 1, by omega, by go_num, ?_, ?_, ?_⟩
        · have h := hB1.set j (.int .i64 (Dm.bv n (Dm.ds n j s)))
          rw [vs_set] at h
          have e : (Dm.dl n j s ++ List.replicate (k - j) 0).set j (Dm.bv n (Dm.ds n j s)) = Dm.dl n (j + 1) s ++ List.replicate (k - (j + 1)) 0 := by
            rw [Dm.dl_snoc, List.set_append_right _ _ (by rw [Dm.dl_length]; exact Nat.le_refl _), Dm.dl_length, Nat.sub_self, List.append_assoc]
            congr 1
            rw [show k - j = (k - (j + 1)) + 1 by omega, List.replicate_succ]
            rfl
          rw [e] at h
          exact h
        · exact (hg.set 0 _).far (fun e => HgB.out e.symm) _
        · exact (hF.set (.inl rfl) _).set (.inr (Nat.le_refl _)) _
      case measure => simp [intOf]; omega
    · have hjk : j = k := by omega
      subst hjk
      go_wp2
      go_ret
      refine ⟨rfl, ?_, hg, hF⟩
      rw [Nat.sub_self, List.replicate_zero, List.append_nil] at hB
      exact hB

theorem draw_any (g : Nat) (n s : Int) (k : Nat) (w : World) (hn : 1 ≤ n) (hn2 : n ≤ 9223372036854775807) (hk1 : 1 ≤ k) (hk : k ≤ 65536) (hb : Blk w g [.int .u64 s] 55) :
    Calls Try.prog 11 #[.pointer (some ⟨g, 0, none⟩), .int .i64 n, .int .i64 k] w fun e w' =>
      e = .returned (.slice (some ⟨w.heap.size, 0, none⟩) k k) ∧ Blk w' w.heap.size (vs .i64 (Dm.dl n k s)) 3 ∧ Blk w' g [.int .u64 (Dm.ds n k s)] 55 ∧ Fr (· = g) w w' := by
  have h1 : ¬ n < 1 := by omega
  have h2 : decide (k < 1) = false := by simp; omega
  have h3 : ¬ (k : Int) < 1 := by omega
  have h4 : ¬ (k : Int) > 65536 := by omega
  go_enter Try.func11, Try.ntmps11
  go_wp2_with (go_at_call 26; refine (asked_any g n s k _ hn hn2 hk hb).mono ?_; rintro e w' ⟨rfl, hB, hg, hF⟩)
  go_ret
  exact ⟨rfl, hB, hg, hF⟩
end Go.Proofs.Ytjfkniknmkcdcaa