/- The walks of the document's at, NatAdd, NatSub (any length), NatMul (short numbers). -/
import Derived.Test.YtjfkniknmkcdcaaGreatDoorMRe
import Derived.Test.YtjfkniknmkcdcaaGreatDoorMPk
namespace Go.Proofs.YtjfkniknmkcdcaaGreatDoor
open Go.RowKit K Nu

theorem getD_digit {l : List Int} (h : Dig W32 l) (i : Nat) : 0 ≤ l.getD i 0 ∧ l.getD i 0 < 4294967296 := h.at (by decide) i
theorem at_any (v : Value) (l : List Int) (i : Nat) (w : World) (hv : IsInts .u32 w v l) (hd : Dig W32 l) (hi : i < 4611686018427387904) :
    Calls Tryz.prog 107 #[v, .int .i64 (i : Int)] w fun e w' => e = .returned (.int .u64 (l.getD i 0)) ∧ w = w' := by
  obtain ⟨A, c, rfl, hc, hm, hr⟩ := hv
  have hx := getD_digit hd i
  by_cases h : i < l.length
  · obtain ⟨b, o, e1, hb, hcell⟩ := hr (by omega)
    subst e1
    have x1 := hcell i h
    clear hr hcell hd
    generalize l.getD i 0 = x at *
    have e2 : IntKind.u64.wrap x = x := by rw [wrap64u]; omega
    unfold maxLen at hm
    go_enter Tryz.func107, Tryz.ntmps107
    go_wp2
    go_ret
    exact ⟨rfl, rfl⟩
  · have h0 : l.getD i 0 = 0 := by rw [List.getD_eq_getElem?_getD, List.getElem?_eq_none (by omega)]; rfl
    rw [h0]
    clear hr hd hx h0
    unfold maxLen at hm
    go_enter Tryz.func107, Tryz.ntmps107
    go_wp2
    go_ret
    exact ⟨rfl, rfl⟩

theorem set_zeros {o : List Int} {j n : Nat} (ho : o.length = j) (hj : j < n) (q : Int) : (o ++ List.replicate (n - j) 0).set j q = (o ++ [q]) ++ List.replicate (n - (j + 1)) 0 := by
  rw [List.set_append_right _ _ (by rw [ho]; exact Nat.le_refl _), ho, Nat.sub_self, List.append_assoc]
  congr 1
  rw [show n - j = (n - (j + 1)) + 1 by omega, List.replicate_succ]
  rfl

set_option maxRecDepth 100000 in
set_option maxHeartbeats 2000000 in
theorem radd_list (v1 v2 : Value) (la lb : List Int) (m : Nat) (w : World) (d1 : Dig W32 la) (d2 : Dig W32 lb) (h1 : IsInts .u32 w v1 la) (h2 : IsInts .u32 w v2 lb) (hla : la.length ≤ 1073741824) (hlb : lb.length ≤ 1073741824) (hs : dv W32 la + dv W32 lb = m) :
    Calls Tryz.prog 83 #[v1, v2] w fun e w' => ∃ r, e = .returned r ∧ RN w' r m ∧ Below w.heap.size w w' := by
  have hA := Lib.hid (fun (wd : World) (hb : Below w.heap.size w wd) (i : Nat) hi => at_any v1 la i wd (h1.below hb (Nat.le_refl _)) d1 hi)
  have hB := Lib.hid (fun (wd : World) (hb : Below w.heap.size w wd) (i : Nat) hi => at_any v2 lb i wd (h2.below hb (Nat.le_refl _)) d2 hi)
  obtain ⟨A1, c1, rfl, -, -, -⟩ := h1
  obtain ⟨A2, c2, rfl, -, -, -⟩ := h2
  obtain ⟨n, hn⟩ : ∃ n, max la.length lb.length = n := ⟨_, rfl⟩
  have hmax : max (la.length : Int) (lb.length : Int) = (n : Int) := by omega
  have hn1 : la.length ≤ n := by omega
  have hn2 : lb.length ≤ n := by omega
  have hn3 : n ≤ 1073741824 := by omega
  have hmk := mk_at (P := Tryz.prog) Tryz.underlying51 Tryz.info110 rfl .i64 .i64 ((n : Int) + 1) (n + 1) rfl (by unfold maxLen; omega) (by omega) (vs_replicate (k := .u32) (n := n + 1) (x := 0))
  have HD := Lib.hid (And.intro d1 d2)
  have HS := Lib.hid hs
  clear hn d1 d2 hs
  go_enter Tryz.func83, Tryz.ntmps83
  go_wp2_with fail
  go_loopw [8, 7] (fun i cv wr => ∃ (j : Nat) (c : Int) (o : List Int), j ≤ n + 1 ∧ i = .int .i64 j ∧ cv = .int .u64 c ∧ 0 ≤ c ∧ c ≤ 1 ∧ Hid (o.length = j) ∧ Hid (Dig W32 o) ∧ Hid (dv W32 o + c * W32 ^ j = dv W32 (la.take j) + dv W32 (lb.take j)) ∧ Hid (Blk wr w.heap.size (vs .u32 (o ++ List.replicate (n + 1 - j) 0)) 110) ∧ Hid (Below w.heap.size w wr)) (fun i _ _ => n + 1 - (intOf i).toNat)
  case atStart =>
    exact ⟨0, 0, [], by omega, rfl, rfl, by omega, by omega, Lib.hid rfl, Lib.hid (Dig.nil _), Lib.hid (by simp [dv]), Lib.hid (Blk.new _ _ _), Lib.hid ((Below.refl _ _).alloc (Nat.le_refl _) _)⟩
  case round =>
    obtain ⟨j, c, o, hj, rfl, rfl, hc0, hc1', ho, hd, hval, hB', hbel⟩ := hrel
    by_cases hlt : j ≤ n
    · have hx := getD_digit HD.out.1 j
      have hy := getD_digit HD.out.2 j
      have hAj := hA.out wr hbel.out j (by omega)
      have hBj := hB.out wr hbel.out j (by omega)
      have HX := Lib.hid (dv_take_succ W32 la j)
      have HY := Lib.hid (dv_take_succ W32 lb j)
      obtain ⟨x, hxe⟩ : ∃ x, la.getD j 0 = x := ⟨_, rfl⟩
      obtain ⟨y, hye⟩ : ∃ y, lb.getD j 0 = y := ⟨_, rfl⟩
      rw [hxe] at hx hAj
      rw [hye] at hy hBj
      have HXE := Lib.hid hxe
      have HYE := Lib.hid hye
      replace hAj := Lib.hid hAj
      replace hBj := Lib.hid hBj
      clear hxe hye
      have e1 : IntKind.u64.wrap (c + x) = c + x := by rw [wrap64u]; omega
      have e2 : IntKind.u64.wrap (c + x + y) = c + x + y := by rw [wrap64u]; omega
      have e3 : IntKind.u32.wrap (c + x + y) = (c + x + y) % 4294967296 := wrap32u _
      have xc := hB'.out.at j (by simp; have := ho.out; omega)
      have xf := hB'.out.frozen j
      go_wp2_with fail
      refine hAj.out.mono ?_
      rintro e w1 ⟨rfl, rfl⟩
      go_wp2_with fail
      refine hBj.out.mono ?_
      rintro e w1 ⟨rfl, rfl⟩
      go_wp2_with fail
      go_roundw
      case rel =>
        refine ⟨j + 1, (c + x + y) / 4294967296, o ++ [(c + x + y) % 4294967296], by omega, by go_num, rfl, by omega, by omega, Lib.hid (by simp [ho.out]), Lib.hid (hd.out.snoc (by unfold W32; omega)), Lib.hid ?_, Lib.hid ?_, Lib.hid ?_⟩
        · rw [dv_snoc, ho.out, HX.out, HY.out, HXE.out, HYE.out, Int.pow_succ]
          have h := hval.out
          have h2 : (c + x + y) % 4294967296 + (c + x + y) / 4294967296 * W32 = (x + y) + c := by unfold W32; omega
          have := carry_add h2 h
          rw [this, Int.add_mul]
          omega
        · rw [← set_zeros ho.out (by omega), ← vs_set]
          exact hB'.out.set j _
        · exact hbel.out.setCell (p := ⟨w.heap.size, j, none⟩) (Nat.le_refl _) _
      case measure => simp [intOf]; omega
    · obtain rfl : j = n + 1 := by omega
      have hc : c = 0 := by
        have h1 := hval.out
        have h3 := dv_bound (B := W32) (by decide) HD.out.1
        have h4 := dv_bound (B := W32) (by decide) HD.out.2
        have h5 := dv_nonneg (B := W32) (by decide) hd.out
        have h6 : W32 ^ la.length ≤ W32 ^ n := pow_le_pow (by decide) hn1
        have h7 : W32 ^ lb.length ≤ W32 ^ n := pow_le_pow (by decide) hn2
        rw [List.take_of_length_le (by omega), List.take_of_length_le (by omega), Int.pow_succ] at h1
        have h8 : 0 < W32 ^ n := pow_pos (by decide) n
        have h9 : W32 ^ n * W32 = 4294967296 * W32 ^ n := Int.mul_comm _ _
        rw [h9] at h1
        rcases (show c = 0 ∨ c = 1 by omega) with h | h
        · exact h
        · exfalso; rw [h] at h1; generalize W32 ^ n = X at *; omega
      have hT := Lib.hid (rtrim_num (w := wr) (v := .slice (some ⟨w.heap.size, 0, none⟩) (n + 1) (n + 1)) (n := m) (hB'.out.ints (n := n + 1) (by simp [ho.out]) (by unfold maxLen; omega)) (by rw [Nat.sub_self]; simpa using hd.out) (by
        rw [Nat.sub_self, List.replicate_zero, List.append_nil]
        have h1 := hval.out
        rw [List.take_of_length_le (by omega), List.take_of_length_le (by omega), HS.out, hc] at h1
        omega))
      clear hc
      go_wp2_with fail
      refine hT.out.mono ?_
      rintro e w1 ⟨r, rfl, hr, rfl⟩
      go_wp2_with fail
      go_ret
      exact ⟨_, rfl, hr, hbel.out⟩
theorem IsNum.len1 {l : List Int} {n : Nat} (h : IsNum W32 l n) (hn : n < 4294967296) : l.length ≤ 1 := by
  rcases l with _ | ⟨x, _ | ⟨y, l⟩⟩
  · simp
  · simp
  · have h1 := h.low (by decide) (by simp)
    have h2 := pow_le_pow (B := W32) (by decide) (show 1 ≤ (x :: y :: l).length - 1 by simp)
    rw [Int.pow_one] at h2
    unfold W32 at h1 h2
    omega
theorem natAdd_any (v1 v2 : Value) (a b : Nat) (w : World) (h1 : RN w v1 a) (h2 : RN w v2 b) (ha : a < 4294967296) (hb : b < 4294967296) :
    Calls Tryz.prog 83 #[v1, v2] w fun e w' => ∃ r, e = .returned r ∧ RN w' r (a + b) ∧ Below w.heap.size w w' := by
  obtain ⟨la, ha1, ha2⟩ := h1
  obtain ⟨lb, hb1, hb2⟩ := h2
  have h3 := IsNum.len1 ha1 ha
  have h4 := IsNum.len1 hb1 hb
  exact radd_list v1 v2 la lb (a + b) w ha1.dig hb1.dig ha2 hb2 (by omega) (by omega) (by rw [ha1.val, hb1.val]; omega)

set_option maxRecDepth 100000 in
set_option maxHeartbeats 2000000 in
/-- of an a that is not below b -/
theorem natSub_any (v1 v2 : Value) (a b : Nat) (w : World) (h1 : RN w v1 a) (h2 : RN w v2 b) (ha : a < 4294967296) (hab : b ≤ a) :
    Calls Tryz.prog 84 #[v1, v2] w fun e w' => ∃ r, e = .returned r ∧ RN w' r (a - b) ∧ Below w.heap.size w w' := by
  rcases h1.cases ha with ⟨rfl, A1, c1, rfl⟩ | ⟨ha0, b1, o1, c1, rfl, hc1, hb1, x1⟩
  · have hmk := mk_at (P := Tryz.prog) Tryz.underlying51 Tryz.info110 rfl .i64 .i64 0 0 rfl (by decide) (by omega) (l := []) rfl
    obtain ⟨A2, k2, c2, rfl⟩ := h2.slice
    go_enter Tryz.func84, Tryz.ntmps84
    go_wp2_with fail
    go_loopw [7, 6] (fun i bo wr => i = .int .i64 0 ∧ bo = .int .u64 0 ∧ wr = w.alloc (.cells #[] 110)) (fun _ _ _ => 0)
    case atStart => exact ⟨rfl, rfl, rfl⟩
    case round =>
      obtain ⟨rfl, rfl, rfl⟩ := hrel
      go_wp2_with fail
      refine (rtrim_num (n := 0 - b) ((Blk.new w (vs .u32 []) 110).ints (n := 0) rfl (by decide)) (Dig.nil _) (by simp [dv])).mono ?_
      rintro e w1 ⟨r, rfl, hr, rfl⟩
      go_wp2_with fail
      go_ret
      exact ⟨_, rfl, hr, (Below.refl _ _).alloc (Nat.le_refl _) _⟩
  · obtain ⟨lb, hb1', hb2'⟩ := h2
    have hlb := IsNum.len1 hb1' (by omega)
    have hg : lb.getD 0 0 = b := by
      have := hb1'.val
      rcases lb with _ | ⟨x, _ | ⟨y, l⟩⟩
      · simpa [dv] using this
      · simpa [dv] using this
      · simp at hlb
    have hat := fun (wd : World) (hb : Below w.heap.size w wd) => at_any v2 lb 0 wd (hb2'.below hb (Nat.le_refl _)) hb1'.dig (by decide)
    rw [hg] at hat
    replace hat := Lib.hid hat
    obtain ⟨A2, c2, rfl, -, -, -⟩ := hb2'
    generalize lb.length = k2 at *
    have hmk := mk_at (P := Tryz.prog) Tryz.underlying51 Tryz.info110 rfl .i64 .i64 1 1 rfl (by decide) (by omega) (l := [.int .u32 0]) rfl
    have x2 : (w.alloc (.cells #[.int .u32 0] 110)).cell? ⟨b1, o1, none⟩ = some (.int .u32 (a : Int)) := by rw [World.cell?_alloc_lt w (a := ⟨b1, o1, none⟩) _ hb1, x1]
    have B0 := Blk.new w [.int .u32 0] 110
    have x3 := B0.one
    have x4 := B0.frozen 0
    have HB := Lib.hid B0
    have e0 : IntKind.u64.wrap (a : Int) = a := by rw [wrap64u]; omega
    have e1 : IntKind.u64.wrap ((a : Int) - b) = ((a - b : Nat) : Int) := by rw [wrap64u]; omega
    obtain ⟨d, hde⟩ : ∃ d, a - b = d := ⟨_, rfl⟩
    have hd1 : d < 4294967296 := by omega
    rw [hde] at e1 ⊢
    have e2 : IntKind.u64.wrap (d : Int) = d := by rw [wrap64u]; omega
    have e3 : IntKind.u32.wrap (d : Int) = d := by rw [wrap32u]; omega
    clear B0 hab hde
    go_enter Tryz.func84, Tryz.ntmps84
    go_wp2_with fail
    go_loopw [7, 6] (fun i bo wr => (i = .int .i64 0 ∧ bo = .int .u64 0 ∧ wr = w.alloc (.cells #[.int .u32 0] 110)) ∨ (i = .int .i64 1 ∧ ∃ k, wr = (w.drewN k).alloc (.cells #[.int .u32 (d : Int)] 110))) (fun i _ _ => (1 - intOf i).toNat)
    case atStart => exact .inl ⟨rfl, rfl, rfl⟩
    case round =>
      rcases hrel with ⟨rfl, rfl, rfl⟩ | ⟨rfl, k, rfl⟩
      · go_wp2_with fail
        go_region_held3 (fun w' => w'.cell? ⟨b1, o1, none⟩ = some (.int .u32 (a : Int))) (go_keep)
          (first
            | ((go_at_call 107; refine (hat.out _ ?_).mono ?_; (exact ((Below.refl _ _).alloc (Nat.le_refl _) _).drew); rintro e w1 ⟨rfl, rfl⟩))
            | ((fail)))
        all_goals go_wp2_with fail
        all_goals
          go_roundw
          case rel => exact .inr ⟨rfl, _, rfl⟩
          case measure => simp [intOf]
      · go_wp2_with fail
        refine (rtrim_num (n := d) ((Blk.new (w.drewN k) (vs .u32 [(d : Int)]) 110).ints (n := 1) rfl (by decide)) (Dig.cons (by unfold W32; omega) (Dig.nil _)) (by simp [dv])).mono ?_
        rintro e w1 ⟨r, rfl, hr, rfl⟩
        go_wp2_with fail
        go_ret
        exact ⟨_, rfl, hr, (bdn (Below.refl _ _) k).alloc (Nat.le_refl _) _⟩

set_option maxRecDepth 100000 in
set_option maxHeartbeats 4000000 in
theorem natMul_any (v1 v2 : Value) (a b : Nat) (w : World) (h1 : RN w v1 a) (h2 : RN w v2 b) (ha : a < 4294967296) (hb : b < 4294967296) :
    Calls Tryz.prog 47 #[v1, v2] w fun e w' => ∃ r, e = .returned r ∧ RN w' r (a * b) ∧ Below w.heap.size w w' := by
  rcases h1.cases ha with ⟨rfl, A1, c1, rfl⟩ | ⟨ha0, b1, o1, c1, rfl, hc1, hb1, x1⟩
  · rcases h2.cases hb with ⟨rfl, A2, c2, rfl⟩ | ⟨hb0, b2, o2, c2, rfl, hc2, hb2, x2⟩
    · have hmk := mk_at (P := Tryz.prog) Tryz.underlying51 Tryz.info110 rfl .i64 .i64 0 0 rfl (by decide) (by omega) (l := []) rfl
      go_enter Tryz.func47, Tryz.ntmps47
      go_wp2_with fail
      go_loopw [6] (fun i wr => i = .int .i64 0 ∧ wr = w.alloc (.cells #[] 110)) (fun _ _ => 0)
      case atStart => exact ⟨rfl, rfl⟩
      case round =>
        obtain ⟨rfl, rfl⟩ := hrel
        go_wp2_with fail
        refine (rtrim_num (n := 0) ((Blk.new w (vs .u32 []) 110).ints (n := 0) rfl (by decide)) (Dig.nil _) rfl).mono ?_
        rintro e w1 ⟨r, rfl, hr, rfl⟩
        go_wp2_with fail
        go_ret
        exact ⟨_, rfl, by rw [Nat.zero_mul]; exact hr, (Below.refl _ _).alloc (Nat.le_refl _) _⟩
    · have hmk := mk_at (P := Tryz.prog) Tryz.underlying51 Tryz.info110 rfl .i64 .i64 1 1 rfl (by decide) (by omega) (l := [.int .u32 0]) rfl
      go_enter Tryz.func47, Tryz.ntmps47
      go_wp2_with fail
      go_loopw [6] (fun i wr => i = .int .i64 0 ∧ wr = w.alloc (.cells #[.int .u32 0] 110)) (fun _ _ => 0)
      case atStart => exact ⟨rfl, rfl⟩
      case round =>
        obtain ⟨rfl, rfl⟩ := hrel
        go_wp2_with fail
        refine (rtrim_num (n := 0) ((Blk.new w (vs .u32 [0]) 110).ints (n := 1) rfl (by decide)) (Dig.cons (by unfold W32; omega) (Dig.nil _)) rfl).mono ?_
        rintro e w1 ⟨r, rfl, hr, rfl⟩
        go_wp2_with fail
        go_ret
        exact ⟨_, rfl, by rw [Nat.zero_mul]; exact hr, (Below.refl _ _).alloc (Nat.le_refl _) _⟩
  · rcases h2.cases hb with ⟨rfl, A2, c2, rfl⟩ | ⟨hb0, b2, o2, c2, rfl, hc2, hb2, x2⟩
    · have hmk := mk_at (P := Tryz.prog) Tryz.underlying51 Tryz.info110 rfl .i64 .i64 1 1 rfl (by decide) (by omega) (l := [.int .u32 0]) rfl
      have B0 := Blk.new w [.int .u32 0] 110
      have x3 := B0.one
      have x4 := B0.frozen 0
      clear B0
      go_enter Tryz.func47, Tryz.ntmps47
      go_wp2_with fail
      go_loopw [6] (fun i wr => (i = .int .i64 0 ∨ i = .int .i64 1) ∧ wr = w.alloc (.cells #[.int .u32 0] 110)) (fun i _ => (1 - intOf i).toNat)
      case atStart => exact ⟨.inl rfl, rfl⟩
      case round =>
        obtain ⟨rfl | rfl, rfl⟩ := hrel
        · go_wp2_with fail
          go_loopw [8, 7] (fun k c wr => k = .int .i64 0 ∧ c = .int .u64 0 ∧ wr = w.alloc (.cells #[.int .u32 0] 110)) (fun _ _ _ => 0)
          case atStart => exact ⟨rfl, rfl, rfl⟩
          case round =>
            obtain ⟨rfl, rfl, rfl⟩ := hrel
            go_wp2_with fail
            go_roundw
            case rel => exact ⟨.inr rfl, trivial⟩
            case measure => simp [intOf]
        · go_wp2_with fail
          refine (rtrim_num (n := 0) ((Blk.new w (vs .u32 [0]) 110).ints (n := 1) rfl (by decide)) (Dig.cons (by unfold W32; omega) (Dig.nil _)) rfl).mono ?_
          rintro e w1 ⟨r, rfl, hr, rfl⟩
          go_wp2_with fail
          go_ret
          exact ⟨_, rfl, by rw [Nat.mul_zero]; exact hr, (Below.refl _ _).alloc (Nat.le_refl _) _⟩
    · have hmk := mk_at (P := Tryz.prog) Tryz.underlying51 Tryz.info110 rfl .i64 .i64 2 2 rfl (by decide) (by omega) (l := [.int .u32 0, .int .u32 0]) rfl
      obtain ⟨m, hm⟩ : ∃ m : Nat, a * b = m := ⟨_, rfl⟩
      have hml : m < 18446744073709551616 := by
        rw [← hm]
        have h1 : a * b ≤ 4294967295 * 4294967295 := Nat.mul_le_mul (by omega) (by omega)
        omega
      have hmz : (a : Int) * (b : Int) = (m : Int) := by rw [← hm, Int.natCast_mul]
      rw [hm]
      have e0 : IntKind.u64.wrap (a : Int) = a := by rw [wrap64u]; omega
      have e1 : IntKind.u64.wrap (b : Int) = b := by rw [wrap64u]; omega
      have e2 : IntKind.u64.wrap (m : Int) = m := by rw [wrap64u]; omega
      have e3 : IntKind.u32.wrap (m : Int) = (m : Int) % 4294967296 := wrap32u _
      have e4 : IntKind.u32.wrap ((m : Int) / 4294967296) = (m : Int) / 4294967296 := by rw [wrap32u]; omega
      have e5 : IntKind.i64.wrap 0 = 0 := by decide
      clear hm
      go_enter Tryz.func47, Tryz.ntmps47
      go_wp2_with fail
      go_loopw [6] (fun i wr => (i = .int .i64 0 ∧ Blk wr w.heap.size [.int .u32 0, .int .u32 0] 110 ∨ (i = .int .i64 1 ∧ Blk wr w.heap.size (vs .u32 [(m : Int) % 4294967296, (m : Int) / 4294967296]) 110)) ∧ Below w.heap.size w wr) (fun i _ => (1 - intOf i).toNat)
      case atStart => exact ⟨.inl ⟨rfl, Blk.new _ _ _⟩, (Below.refl _ _).alloc (Nat.le_refl _) _⟩
      case round =>
        rcases hrel with ⟨⟨rfl, P⟩ | ⟨rfl, P⟩, hbel⟩
        · go_wp2_with fail
          go_loopw [8, 7] (fun k c wr => (k = .int .i64 0 ∧ c = .int .u64 0 ∧ Blk wr w.heap.size [.int .u32 0, .int .u32 0] 110 ∨ (k = .int .i64 1 ∧ c = .int .u64 ((m : Int) / 4294967296) ∧ Blk wr w.heap.size [.int .u32 ((m : Int) % 4294967296), .int .u32 0] 110)) ∧ Below w.heap.size w wr) (fun k _ _ => (1 - intOf k).toNat)
          case atStart => exact ⟨.inl ⟨rfl, rfl, P⟩, hbel⟩
          case round =>
            clear P hbel
            rcases hrel with ⟨⟨rfl, rfl, P⟩ | ⟨rfl, rfl, P⟩, hbel⟩
            · have y1 := (hbel.cell (p := ⟨b1, o1, none⟩) hb1).trans x1
              have y2 := (hbel.cell (p := ⟨b2, o2, none⟩) hb2).trans x2
              have y3 := P.c0
              have y4 := P.frozen 0
              have HP := Lib.hid P
              have HB := Lib.hid hbel
              clear P hbel
              go_wp2_with fail
              go_region_held3 (fun w' => w'.cell? ⟨b1, o1, none⟩ = some (.int .u32 (a : Int)) ∧ w'.cell? ⟨b2, o2, none⟩ = some (.int .u32 (b : Int)) ∧ w'.cell? ⟨w.heap.size, 0, none⟩ = some (.int .u32 0)) (go_keep) (fail)
              all_goals go_wp2_with fail
              all_goals
                go_roundw
                case rel => exact ⟨.inr ⟨rfl, by rw [Int.zero_add], HP.out.drew.set 0 _⟩, HB.out.drew.setCell (p := ⟨w.heap.size, 0, none⟩) (Nat.le_refl _) _⟩
                case measure => simp [intOf]
            · have y3 := P.c1
              have y4 := P.frozen 1
              have HP := Lib.hid P
              have HB := Lib.hid hbel
              clear P hbel
              go_wp2_with fail
              go_roundw
              case rel => exact ⟨.inr ⟨rfl, HP.out.set 1 _⟩, HB.out.setCell (p := ⟨w.heap.size, 1, none⟩) (Nat.le_refl _) _⟩
              case measure => simp [intOf]
        · have HP := Lib.hid P
          have HB := Lib.hid hbel
          clear P hbel
          go_wp2_with fail
          refine (rtrim_num (n := m) (HP.out.ints (n := 2) rfl (by decide)) (Dig.cons (by unfold W32; omega) (Dig.cons (by unfold W32; omega) (Dig.nil _))) (by simp only [dv]; unfold W32; omega)).mono ?_
          rintro e w1 ⟨r, rfl, hr, rfl⟩
          go_wp2_with fail
          go_ret
          exact ⟨_, rfl, hr, HB.out⟩
end Go.Proofs.YtjfkniknmkcdcaaGreatDoor
