/- The walk of share's shares, Shares. (printed by wip/gen/sd.py) -/
import Derived.Test.YtjfkniknmkcdcaaGreatDoorMSc
import Derived.Test.YtjfkniknmkcdcaaGreatDoorMQd
namespace Go.Proofs.YtjfkniknmkcdcaaGreatDoor
open Go.RowKit K Nu

theorem QV.zero (w : World) : QV w false (.slice none 0 0) (.slice none 0 0) 0 := ⟨⟨NatV.nil _, rfl⟩, NatV.nil _⟩
def z3 : T3 := (false, .slice none 0 0, .slice none 0 0)
theorem flat_rep_get (n i : Nat) (h : i < n * 3) : (flat (List.replicate n z3))[i]? = some (#[Value.bool false, .slice none 0 0, .slice none 0 0][i % 3]!) := by
  have hi : (List.replicate n z3)[i / 3]? = some z3 := by rw [List.getElem?_replicate, if_pos (by omega)]
  obtain ⟨g1, g2, g3⟩ := flat_get _ _ _ hi
  have h3 : i % 3 = 0 ∨ i % 3 = 1 ∨ i % 3 = 2 := by omega
  rcases h3 with h3 | h3 | h3
  · rw [h3, show i = i / 3 * 3 by omega, g1]; rfl
  · rw [h3]; conv => lhs; rw [show i = i / 3 * 3 + 1 by omega]
    rw [g2]; rfl
  · rw [h3]; conv => lhs; rw [show i = i / 3 * 3 + 2 by omega]
    rw [g3]; rfl
theorem made3 (n : Nat) : madeCells #[Value.bool false, .slice none 0 0, .slice none 0 0] (n * 3) = (flat (List.replicate n z3)).toArray := by
  apply Array.ext_getElem?
  intro i
  have e : ∀ l : List Value, l.toArray[i]? = l[i]? := fun l => by simp
  rw [e (flat (List.replicate n z3))]
  by_cases h : i < n * 3
  · rw [flat_rep_get n i h]
    simp [madeCells, h]
  · rw [show (flat (List.replicate n z3))[i]? = none from List.getElem?_eq_none (by rw [flat_length, List.length_replicate]; omega), show (madeCells #[Value.bool false, .slice none 0 0, .slice none 0 0] (n * 3))[i]? = none from Array.getElem?_eq_none (by rw [size_madeCells]; omega)]
theorem mk3_at {P : Program} {t e : TypeId} (ht : P.underlying t = some (.slice e)) (hi : (P.info? e).map (fun i => (i.zero, i.size, i.bytes)) = some (some (.agg #[.bool false, .slice none 0 0, .slice none 0 0]), 3, 56)) (kl kc : IntKind) (n : Nat) (hn : n ≤ 4096) :
    ∀ w : World, (Instr.makeSlice t (.int kl (n : Int)) (.int kc (n : Int))).run P w = .ok (.slice (some ⟨w.heap.size, 0, none⟩) n n) (w.alloc (.cells (flat (List.replicate n z3)).toArray e)) := by
  intro w
  obtain ⟨i, h1, h2, h3, h4⟩ := info_parts hi
  have := run_make (P := P) w t e i _ ht h1 h2 kl kc (n : Int) (n : Int) (by omega) (by omega) (by rw [h4]; omega) (by omega)
  rw [h3, show (Value.agg #[.bool false, .slice none 0 0, .slice none 0 0]).cells = #[Value.bool false, .slice none 0 0, .slice none 0 0] from rfl, Int.toNat_natCast, made3] at this
  exact this

theorem Tryz.or_i64 {a b : Nat} (ha : a < 9223372036854775808) (hb : b < 9223372036854775808) : bits .or .i64 (a : Int) (b : Int) = ((a ||| b : Nat) : Int) :=
  (bits_nat .i64 63 (by decide) (fun n h0 h1 => by rw [IntKind.wrap_i64]; simp at h1; omega) a b (by simpa using ha) (by simpa using hb)).2
theorem bit_at {s k : Nat} (hs : s < 9223372036854775808) : bits .and .i64 ((s : Int) / 2 ^ k) 1 = if s.testBit k then 1 else 0 := by
  have h1 : (s : Int) / 2 ^ k = ((s / 2 ^ k : Nat) : Int) := by rw [Int.natCast_ediv, Int.natCast_pow]; rfl
  have h2 : s / 2 ^ k ≤ s := Nat.div_le_self _ _
  rw [h1, show (1 : Int) = ((1 : Nat) : Int) from rfl, Tryz.and_i64 (by omega) (by decide), Nat.and_one_is_mod, Nat.testBit_eq_decide_div_mod_eq]
  rcases Nat.mod_two_eq_zero_or_one (s / 2 ^ k) with h | h <;> simp [h]

/-- what a set without the column adds to its share -/
def tm (v : List Rat) (n c s : Nat) : Rat := if s.testBit c then 0 else wt n (ones s) * (v.getD (s ||| 2 ^ c) 0 - v.getD s 0)
def acc (v : List Rat) (n c : Nat) : Nat → Rat
  | 0 => 0
  | s + 1 => acc v n c s + tm v n c s
/-- the shares -/
def shs (v : List Rat) (n : Nat) : List Rat := (List.range n).map fun c => acc v n c (2 ^ n)
/-- all that is reckoned on the way is short -/
structure Fit (v : List Rat) (n : Nat) : Prop where
  sv : ∀ x, x ∈ v → Short x
  d : ∀ s c, s < 2 ^ n → c < n → s.testBit c = false → Short (v.getD (s ||| 2 ^ c) 0 - v.getD s 0) ∧ Short (wt n (ones s) * (v.getD (s ||| 2 ^ c) 0 - v.getD s 0))
  a : ∀ s c, s ≤ 2 ^ n → c < n → Short (acc v n c s)

theorem noints_flat {Q : Nat → Rat} {w : World} {ts : List T3} (h : ∀ (c : Nat) (t : T3), ts[c]? = some t → QV w t.1 t.2.1 t.2.2 (Q c)) : ∀ x, x ∈ flat ts → ∀ k q, x ≠ .int k q := by
  intro x hx
  rcases flat_mem hx with ⟨b, rfl⟩ | ⟨t, ht, h1⟩
  · intro k q; simp
  · obtain ⟨i, hi, rfl⟩ := List.mem_iff_getElem.1 ht
    obtain ⟨A1, k1, c1, A2, k2, c2, e1, e2⟩ := (h i _ (List.getElem?_eq_getElem hi)).slices
    rcases h1 with h1 | h1
    · rw [h1, e1]; intro k q; simp
    · rw [h1, e2]; intro k q; simp
theorem no_set {l : List Value} {j : Nat} {u : Value} (h : ∀ x, x ∈ l → ∀ k q, x ≠ .int k q) (hu : ∀ k q, u ≠ .int k q) : ∀ x, x ∈ l.set j u → ∀ k q, x ≠ .int k q := by
  intro x hx
  rcases List.mem_or_eq_of_mem_set hx with hx | rfl
  · exact h x hx
  · exact hu
theorem NatV.set3flat {w : World} {g i n : Nat} {vn u1 u2 : Value} {b : Bool} {l : List Value} {T : TypeId} (h : NatV w vn n) (hB : Blk w g l T) (hno : ∀ x, x ∈ l → ∀ k q, x ≠ .int k q) (h1 : ∀ k q, u1 ≠ .int k q) (_h2 : ∀ k q, u2 ≠ .int k q) :
    NatV (((w.setCell ⟨g, i * 3, none⟩ (.bool b)).setCell ⟨g, i * 3 + 1, none⟩ u1).setCell ⟨g, i * 3 + 2, none⟩ u2) vn n :=
  ((h.box hB (fun x hx q => hno x hx _ q) (i * 3) (.bool b)).box (hB.set _ _) (fun x hx q => no_set hno (by simp) x hx _ q) (i * 3 + 1) u1).box ((hB.set _ _).set _ _) (fun x hx q => no_set (no_set hno (by simp)) h1 x hx _ q) (i * 3 + 2) u2
theorem QV.set3flat {w : World} {g i : Nat} {b b' : Bool} {vn vr u1 u2 : Value} {q : Rat} {l : List Value} {T : TypeId} (h : QV w b' vn vr q) (hB : Blk w g l T) (hno : ∀ x, x ∈ l → ∀ k q, x ≠ .int k q) (h1 : ∀ k q, u1 ≠ .int k q) (h2 : ∀ k q, u2 ≠ .int k q) :
    QV (((w.setCell ⟨g, i * 3, none⟩ (.bool b)).setCell ⟨g, i * 3 + 1, none⟩ u1).setCell ⟨g, i * 3 + 2, none⟩ u2) b' vn vr q :=
  ⟨⟨h.1.1.set3flat hB hno h1 h2, h.1.2⟩, h.2.set3flat hB hno h1 h2⟩
def onesOk (n : Nat) : Bool := (List.range (2 ^ n)).all fun s => (List.range n).all fun c => s.testBit c || decide (ones s < n)
theorem onesOk_all : ∀ n, n < 11 → onesOk n = true := by decide +kernel
theorem ones_lt {n s c : Nat} (hn : n ≤ 10) (hs : s < 2 ^ n) (hc : c < n) (hb : s.testBit c = false) : ones s < n := by
  have h := onesOk_all n (by omega)
  unfold onesOk at h
  rw [List.all_eq_true] at h
  have h2 := h s (List.mem_range.2 hs)
  rw [List.all_eq_true] at h2
  have h3 := h2 c (List.mem_range.2 hc)
  rw [hb, Bool.false_or] at h3
  exact of_decide_eq_true h3
def wtOk (n : Nat) : Bool := (List.range n).all fun k => decide (-2147483648 < (wt n k).num) && decide ((wt n k).num < 2147483648) && decide ((wt n k).den < 2147483648)
theorem wtOk_all : ∀ n, n < 11 → wtOk n = true := by decide +kernel
theorem wt_short {n k : Nat} (hn : n ≤ 10) (hk : k < n) : Short (wt n k) := by
  have h := wtOk_all n (by omega)
  unfold wtOk at h
  rw [List.all_eq_true] at h
  have h2 := h k (List.mem_range.2 hk)
  simp only [Bool.and_eq_true, decide_eq_true_eq] at h2
  exact ⟨h2.1.1, h2.1.2, h2.2⟩

set_option maxRecDepth 100000 in
set_option maxHeartbeats 20000000 in
theorem shares_any (A : Option Addr) (cv n : Nat) (v : List Rat) (w : World) (h : Row3 QV w (.slice A (2 ^ n) cv) v) (hv : v.length = 2 ^ n) (hn : 1 ≤ n) (hn2 : n ≤ 10) (hF : Fac w) (fit : Fit v n) :
    Calls Tryz.prog 27 #[.slice A (2 ^ n) cv, .int .i64 (n : Int)] w fun e w' => ∃ r, e = .returned r ∧ Row3 QV w' r (shs v n) ∧ Below w.heap.size w w' := by
  obtain ⟨A0, c0, e0, hlc, hcm, hat⟩ := h.at
  rw [hv] at e0 hlc hat
  injection e0 with e0 _ e1
  subst e0 e1
  have hS1024 : 2 ^ n ≤ 1024 := Nat.le_trans (Nat.pow_le_pow_right (by decide) hn2) (by decide)
  obtain ⟨S, hS⟩ : ∃ S, 2 ^ n = S := ⟨_, rfl⟩
  rw [hS] at hlc hat hv hS1024 ⊢
  have hW := Lib.hid (weights_any n w hn hn2 hF)
  have hmk := mk3_at (P := Tryz.prog) Tryz.underlying29 Tryz.infoQ .i64 .i64 n (by omega)
  have HV := Lib.hid (And.intro hv hS)
  have FIT := Lib.hid fit
  clear hv hS fit h
  go_enter Tryz.func27, Tryz.ntmps27
  go_wp2_with fail
  refine hW.out.mono ?_
  rintro e w1 ⟨rw_, rfl, hrw, hb1⟩
  obtain ⟨Bw, cw, rfl, hlcw, hcmw, hatw⟩ := hrw.at
  rw [show (wts n).length = n by simp [wts]] at hlcw hatw ⊢
  have hF1 := hF.below hb1 (Nat.le_refl _)
  have HF := Lib.hid hF1
  have hsz1 := hb1.size
  clear hW hF hF1
  go_wp2_with fail
  go_loopw [15] (fun i wr => ∃ (s : Nat) (ts : List T3), s ≤ S ∧ i = .int .i64 s ∧ Hid (ts.length = n) ∧ Hid (Blk wr w1.heap.size (flat ts) 40) ∧ Hid (∀ (c : Nat) (t : T3), ts[c]? = some t → QV wr t.1 t.2.1 t.2.2 (acc v n c s)) ∧ Hid (Below w.heap.size w wr) ∧ Hid (Below w1.heap.size w1 wr)) (fun i _ => S - (intOf i).toNat)
  case atStart =>
    refine ⟨0, List.replicate n z3, by omega, rfl, Lib.hid (by simp), Lib.hid (Blk.new _ _ _), Lib.hid (fun c t ht => ?_), Lib.hid (hb1.alloc hb1.size _), Lib.hid ((Below.refl _ _).alloc (Nat.le_refl _) _)⟩
    rw [List.getElem?_replicate] at ht
    split at ht
    · injection ht with ht; subst ht; exact QV.zero _
    · cases ht
  case round =>
    obtain ⟨s, ts, hs, rfl, hts, P, hq, hbel, hbel1⟩ := hrel
    by_cases hlt : s < S
    · have HS := Lib.hid hlt
      go_wp2_with fail
      go_loopw [20] (fun i wr => ∃ (c : Nat) (ts : List T3), c ≤ n ∧ i = .int .i64 c ∧ Hid (ts.length = n) ∧ Hid (Blk wr w1.heap.size (flat ts) 40) ∧ Hid (∀ (d : Nat) (t : T3), ts[d]? = some t → QV wr t.1 t.2.1 t.2.2 (acc v n d (if d < c then s + 1 else s))) ∧ Hid (Below w.heap.size w wr) ∧ Hid (Below w1.heap.size w1 wr)) (fun i _ => n - (intOf i).toNat)
      case atStart => exact ⟨0, ts, by omega, rfl, hts, P, Lib.hid (fun d t ht => by rw [if_neg (by omega)]; exact hq.out d t ht), hbel, hbel1⟩
      case round =>
        clear hq P hts ts hbel hbel1
        obtain ⟨c, ts, hc, rfl, hts, P, hq, hbel, hbel1⟩ := hrel
        by_cases hcn : c < n
        · have hbit := bit_at (s := s) (k := c) (by omega)
          by_cases hb : s.testBit c = true
          · rw [if_pos hb] at hbit
            have hq2 := Lib.hid (show ∀ (d : Nat) (t : T3), ts[d]? = some t → QV wr t.1 t.2.1 t.2.2 (acc v n d (if d < c + 1 then s + 1 else s)) from fun d t ht => by
              have := hq.out d t ht
              by_cases e : d = c
              · subst e
                rw [if_neg (by omega)] at this
                rw [if_pos (by omega), acc, tm, if_pos hb, Rat.add_zero]
                exact this
              · rwa [show (if d < c + 1 then s + 1 else s) = (if d < c then s + 1 else s) by by_cases h7 : d < c; rw [if_pos h7, if_pos (by omega)]; rw [if_neg h7, if_neg (by omega)]])
            clear hb hq
            go_wp2_with fail
            go_roundw
            case rel => exact ⟨c + 1, ts, by omega, by go_num, hts, P, hq2, hbel, hbel1⟩
            case measure => simp [intOf]; omega
          · rw [if_neg hb] at hbit
            have hb0 : s.testBit c = false := by simpa using hb
            have hs2 : s < 2 ^ n := by rw [HV.out.2]; exact hlt
            have hc2 : 2 ^ c < 2 ^ n := Nat.pow_lt_pow_right (by decide) hcn
            have hm0 : s ||| 2 ^ c < 2 ^ n := Nat.or_lt_two_pow hs2 hc2
            have hu0 := ones_lt hn2 hs2 hcn hb0
            have hpz : (2 : Int) ^ c = ((2 ^ c : Nat) : Int) := by rw [Int.natCast_pow]; rfl
            have hor : bits .or .i64 (s : Int) (2 ^ c) = ((s ||| 2 ^ c : Nat) : Int) := by
              rw [hpz]
              refine Tryz.or_i64 (by omega) ?_
              have := HV.out.2
              generalize 2 ^ c = X at *
              omega
            have hw : IntKind.i64.wrap ((2 : Int) ^ c) = 2 ^ c := by
              have := HV.out.2
              rw [hpz, IntKind.wrap_i64]
              generalize (2 : Nat) ^ c = X at *
              omega
            obtain ⟨d1, d2⟩ := FIT.out.d s c hs2 hcn hb0
            have d3 := FIT.out.a s c (by omega) hcn
            have d4 := wt_short hn2 hu0
            have hacc : acc v n c (s + 1) = acc v n c s + wt n (ones s) * (v.getD (s ||| 2 ^ c) 0 - v.getD s 0) := by rw [acc, tm, if_neg hb]
            have hO := fun wd => ones_any s wd (by omega)
            rw [HV.out.2] at hm0
            obtain ⟨u, hu⟩ : ∃ u, ones s = u := ⟨_, rfl⟩
            obtain ⟨m, hm⟩ : ∃ m, s ||| 2 ^ c = m := ⟨_, rfl⟩
            rw [hu] at hO hu0 d2 d4 hacc
            rw [hm] at hor hm0 d1 d2 hacc
            replace hO := Lib.hid hO
            have HACC := Lib.hid hacc
            have hwu : IntKind.i64.wrap (u : Int) = u := by rw [IntKind.wrap_i64]; omega
            obtain ⟨bv, ov, x3, v3, v4, rfl, hbv, y6, y7, y8, hQ3⟩ := hat m hm0
            obtain ⟨bv', ov', x4, v5, v6, ev, hbv', y9, y10, y11, hQ4⟩ := hat s hlt
            injection ev with ev
            injection ev with ev1 ev2
            subst ev1 ev2
            obtain ⟨bw, ow, x2, v7, v8, rfl, hbw, y3, y4, y5, hQ2⟩ := hatw u hu0
            rw [show (wts n).getD u 0 = wt n u by rw [List.getD_eq_getElem?_getD]; simp [wts, hu0]] at hQ2
            have htc : ts[c]? = some (ts[c]'(by rw [hts.out]; exact hcn)) := List.getElem?_eq_getElem _
            have hQ1 := hq.out c _ htc
            rw [if_neg (by omega)] at hQ1
            obtain ⟨g1, g2, g3⟩ := flat_get ts c _ htc
            generalize ts[c]'(by rw [hts.out]; exact hcn) = t1 at *
            obtain ⟨x1, v1, v2⟩ := t1
            have q0_0 := (P.out.cell (c * 3)).trans g1
            have q0_1 := (P.out.cell (c * 3 + 1)).trans g2
            have q0_2 := (P.out.cell (c * 3 + 2)).trans g3
            simp only at q0_0 q0_1 q0_2 hQ1
            replace hQ2 := hQ2.below hbel1.out (Nat.le_refl _)
            replace hQ3 := hQ3.below hbel.out (Nat.le_refl _)
            replace hQ4 := hQ4.below hbel.out (Nat.le_refl _)
            obtain ⟨A1, k1, c1, A2, k2, c2, rfl, rfl⟩ := hQ1.slices
            obtain ⟨A3, k3, c3, A4, k4, c4, rfl, rfl⟩ := hQ2.slices
            obtain ⟨A5, k5, c5, A6, k6, c6, rfl, rfl⟩ := hQ3.slices
            obtain ⟨A7, k7, c7, A8, k8, c8, rfl, rfl⟩ := hQ4.slices
            have q0_3 := (hbel1.out.cell (p := ⟨bw, ow + u * 3, none⟩) hbw).trans y3
            have q0_4 := (hbel1.out.cell (p := ⟨bw, ow + u * 3 + 1, none⟩) hbw).trans y4
            have q0_5 := (hbel1.out.cell (p := ⟨bw, ow + u * 3 + 2, none⟩) hbw).trans y5
            have q0_6 := (hbel.out.cell (p := ⟨bv, ov + m * 3, none⟩) hbv).trans y6
            have q0_7 := (hbel.out.cell (p := ⟨bv, ov + m * 3 + 1, none⟩) hbv).trans y7
            have q0_8 := (hbel.out.cell (p := ⟨bv, ov + m * 3 + 2, none⟩) hbv).trans y8
            have q0_9 := (hbel.out.cell (p := ⟨bv, ov + s * 3, none⟩) hbv).trans y9
            have q0_10 := (hbel.out.cell (p := ⟨bv, ov + s * 3 + 1, none⟩) hbv).trans y10
            have q0_11 := (hbel.out.cell (p := ⟨bv, ov + s * 3 + 2, none⟩) hbv).trans y11
            have lg_0 : w1.heap.size < wr.heap.size := P.out.lt
            have lbw_0 : bw < wr.heap.size := Nat.lt_of_lt_of_le hbw hbel1.out.size
            have lbv_0 : bv < wr.heap.size := Nat.lt_of_lt_of_le hbv hbel.out.size
            have hvm := FIT.out.sv _ (getD_mem' (l := v) (i := m) (by rw [HV.out.1]; exact hm0))
            have hvs := FIT.out.sv _ (getD_mem' (l := v) (i := s) (by rw [HV.out.1]; exact hlt))
            have hS := Lib.hid (fun (wd : World) (hb : Below wr.heap.size wr wd) => frSub_small x3 x4 _ _ _ _ _ _ wd (hQ3.below hb (Nat.le_refl _)) (hQ4.below hb (Nat.le_refl _)) hvm hvs)
            have hM := Lib.hid (fun (wd : World) b5 v5 v6 (hb : Below wr.heap.size wr wd) (hq5 : QV wd b5 v5 v6 (v.getD m 0 - v.getD s 0)) => frMul_small x2 b5 _ _ v5 v6 _ _ wd (hQ2.below hb (Nat.le_refl _)) hq5 d4 d1)
            have hA := Lib.hid (fun (wd : World) b6 v7 v8 (hb : Below wr.heap.size wr wd) (hq6 : QV wd b6 v7 v8 (wt n u * (v.getD m 0 - v.getD s 0))) => frAdd_small x1 b6 _ _ v7 v8 _ _ wd (hQ1.below hb (Nat.le_refl _)) hq6 d3 d2)
            have nb1 : ¬ w1.heap.size = bw := by omega
            have nb2 : ¬ bw = w1.heap.size := by omega
            have nb3 : ¬ w1.heap.size = bv := by omega
            have nb4 : ¬ bv = w1.heap.size := by omega
            have hc11 : c < 11 := by omega
            have hc64 : min c 64 = c := by omega
            have hwc : IntKind.u64.wrap (c : Int) = c := by rw [wrap64u]; omega
            have hc65 : min c IntKind.i64.bits = c := hc64
            have hc66 : min (Int.toNat (c : Int)) IntKind.i64.bits = c := hc64
            have hc67 : (c : Int) < 11 := by omega
            have hc68 : (0 : Int) ≤ c := by omega
            have hm3 : (m : Int) < (S : Int) := by omega
            have hu3 : (u : Int) < (n : Int) := by omega
            have HT := Lib.hid htc
            clear hb hb0 hs2 hc2 hpz hu hm hacc d1 d2 d3 d4 y3 y4 y5 y6 y7 y8 y9 y10 y11 hQ1 hQ2 hQ3 hQ4 g1 g2 g3 htc hat hatw hvm hvs hbv hbv' hbw
            go_upto_region 11 with fail
            rw [show Op.load 40 (Operand.tmp 33) = id (Op.load 40 (Operand.tmp 33)) from rfl]
            go_region_held3 (fun w' => w'.cell? ⟨bw, ow + u * 3, none⟩ = some (Value.bool x2) ∧ w'.cell? ⟨bw, ow + u * 3 + 1, none⟩ = some (Value.slice A3 k3 c3) ∧ w'.cell? ⟨bw, ow + u * 3 + 2, none⟩ = some (Value.slice A4 k4 c4) ∧ w'.cell? ⟨bv, ov + m * 3, none⟩ = some (Value.bool x3) ∧ w'.cell? ⟨bv, ov + m * 3 + 1, none⟩ = some (Value.slice A5 k5 c5) ∧ w'.cell? ⟨bv, ov + m * 3 + 2, none⟩ = some (Value.slice A6 k6 c6) ∧ w'.cell? ⟨bv, ov + s * 3, none⟩ = some (Value.bool x4) ∧ w'.cell? ⟨bv, ov + s * 3 + 1, none⟩ = some (Value.slice A7 k7 c7) ∧ w'.cell? ⟨bv, ov + s * 3 + 2, none⟩ = some (Value.slice A8 k8 c8)) (go_keep)
            (first
              | ((go_at_call 21; refine (hA.out _ _ _ _ hB_2.out HQ6.out).mono ?_; rintro e w_3 ⟨b7, v9, v10, rfl, hq7, hb_3⟩; have hB_3 := Lib.hid (hB_2.out.trans (hb_3.mono hB_2.out.size)); have q3_0 : w_3.cell? ⟨w1.heap.size, c * 3, none⟩ = some (Value.bool x1) := (hb_3.cell (p := ⟨w1.heap.size, c * 3, none⟩) lg_2).trans q2_0; have q3_1 : w_3.cell? ⟨w1.heap.size, c * 3 + 1, none⟩ = some (Value.slice A1 k1 c1) := (hb_3.cell (p := ⟨w1.heap.size, c * 3 + 1, none⟩) lg_2).trans q2_1; have q3_2 : w_3.cell? ⟨w1.heap.size, c * 3 + 2, none⟩ = some (Value.slice A2 k2 c2) := (hb_3.cell (p := ⟨w1.heap.size, c * 3 + 2, none⟩) lg_2).trans q2_2; have q3_3 : w_3.cell? ⟨bw, ow + u * 3, none⟩ = some (Value.bool x2) := (hb_3.cell (p := ⟨bw, ow + u * 3, none⟩) lbw_2).trans q2_3; have q3_4 : w_3.cell? ⟨bw, ow + u * 3 + 1, none⟩ = some (Value.slice A3 k3 c3) := (hb_3.cell (p := ⟨bw, ow + u * 3 + 1, none⟩) lbw_2).trans q2_4; have q3_5 : w_3.cell? ⟨bw, ow + u * 3 + 2, none⟩ = some (Value.slice A4 k4 c4) := (hb_3.cell (p := ⟨bw, ow + u * 3 + 2, none⟩) lbw_2).trans q2_5; have q3_6 : w_3.cell? ⟨bv, ov + m * 3, none⟩ = some (Value.bool x3) := (hb_3.cell (p := ⟨bv, ov + m * 3, none⟩) lbv_2).trans q2_6; have q3_7 : w_3.cell? ⟨bv, ov + m * 3 + 1, none⟩ = some (Value.slice A5 k5 c5) := (hb_3.cell (p := ⟨bv, ov + m * 3 + 1, none⟩) lbv_2).trans q2_7; have q3_8 : w_3.cell? ⟨bv, ov + m * 3 + 2, none⟩ = some (Value.slice A6 k6 c6) := (hb_3.cell (p := ⟨bv, ov + m * 3 + 2, none⟩) lbv_2).trans q2_8; have q3_9 : w_3.cell? ⟨bv, ov + s * 3, none⟩ = some (Value.bool x4) := (hb_3.cell (p := ⟨bv, ov + s * 3, none⟩) lbv_2).trans q2_9; have q3_10 : w_3.cell? ⟨bv, ov + s * 3 + 1, none⟩ = some (Value.slice A7 k7 c7) := (hb_3.cell (p := ⟨bv, ov + s * 3 + 1, none⟩) lbv_2).trans q2_10; have q3_11 : w_3.cell? ⟨bv, ov + s * 3 + 2, none⟩ = some (Value.slice A8 k8 c8) := (hb_3.cell (p := ⟨bv, ov + s * 3 + 2, none⟩) lbv_2).trans q2_11; have lg_3 : w1.heap.size < w_3.heap.size := Nat.lt_of_lt_of_le lg_2 hb_3.size; have lbw_3 : bw < w_3.heap.size := Nat.lt_of_lt_of_le lbw_2 hb_3.size; have lbv_3 : bv < w_3.heap.size := Nat.lt_of_lt_of_le lbv_2 hb_3.size; obtain ⟨E1, e1, f1, E2, e2, f2, rfl, rfl⟩ := hq7.slices; have HQ7 := Lib.hid hq7; clear hq7; have P3 := Lib.hid (P.out.below hB_3.out lg_0); have fz0 := P3.out.frozen (c * 3); have fz1 := P3.out.frozen (c * 3 + 1); have fz2 := P3.out.frozen (c * 3 + 2)))
              | ((go_at_call 65; refine (hM.out _ _ _ _ hB_1.out HQ5.out).mono ?_; rintro e w_2 ⟨b6, v7, v8, rfl, hq6, hb_2⟩; have hB_2 := Lib.hid (hB_1.out.trans (hb_2.mono hB_1.out.size)); have q2_0 : w_2.cell? ⟨w1.heap.size, c * 3, none⟩ = some (Value.bool x1) := (hb_2.cell (p := ⟨w1.heap.size, c * 3, none⟩) lg_1).trans q1_0; have q2_1 : w_2.cell? ⟨w1.heap.size, c * 3 + 1, none⟩ = some (Value.slice A1 k1 c1) := (hb_2.cell (p := ⟨w1.heap.size, c * 3 + 1, none⟩) lg_1).trans q1_1; have q2_2 : w_2.cell? ⟨w1.heap.size, c * 3 + 2, none⟩ = some (Value.slice A2 k2 c2) := (hb_2.cell (p := ⟨w1.heap.size, c * 3 + 2, none⟩) lg_1).trans q1_2; have q2_3 : w_2.cell? ⟨bw, ow + u * 3, none⟩ = some (Value.bool x2) := (hb_2.cell (p := ⟨bw, ow + u * 3, none⟩) lbw_1).trans q1_3; have q2_4 : w_2.cell? ⟨bw, ow + u * 3 + 1, none⟩ = some (Value.slice A3 k3 c3) := (hb_2.cell (p := ⟨bw, ow + u * 3 + 1, none⟩) lbw_1).trans q1_4; have q2_5 : w_2.cell? ⟨bw, ow + u * 3 + 2, none⟩ = some (Value.slice A4 k4 c4) := (hb_2.cell (p := ⟨bw, ow + u * 3 + 2, none⟩) lbw_1).trans q1_5; have q2_6 : w_2.cell? ⟨bv, ov + m * 3, none⟩ = some (Value.bool x3) := (hb_2.cell (p := ⟨bv, ov + m * 3, none⟩) lbv_1).trans q1_6; have q2_7 : w_2.cell? ⟨bv, ov + m * 3 + 1, none⟩ = some (Value.slice A5 k5 c5) := (hb_2.cell (p := ⟨bv, ov + m * 3 + 1, none⟩) lbv_1).trans q1_7; have q2_8 : w_2.cell? ⟨bv, ov + m * 3 + 2, none⟩ = some (Value.slice A6 k6 c6) := (hb_2.cell (p := ⟨bv, ov + m * 3 + 2, none⟩) lbv_1).trans q1_8; have q2_9 : w_2.cell? ⟨bv, ov + s * 3, none⟩ = some (Value.bool x4) := (hb_2.cell (p := ⟨bv, ov + s * 3, none⟩) lbv_1).trans q1_9; have q2_10 : w_2.cell? ⟨bv, ov + s * 3 + 1, none⟩ = some (Value.slice A7 k7 c7) := (hb_2.cell (p := ⟨bv, ov + s * 3 + 1, none⟩) lbv_1).trans q1_10; have q2_11 : w_2.cell? ⟨bv, ov + s * 3 + 2, none⟩ = some (Value.slice A8 k8 c8) := (hb_2.cell (p := ⟨bv, ov + s * 3 + 2, none⟩) lbv_1).trans q1_11; have lg_2 : w1.heap.size < w_2.heap.size := Nat.lt_of_lt_of_le lg_1 hb_2.size; have lbw_2 : bw < w_2.heap.size := Nat.lt_of_lt_of_le lbw_1 hb_2.size; have lbv_2 : bv < w_2.heap.size := Nat.lt_of_lt_of_le lbv_1 hb_2.size; have HQ6 := Lib.hid hq6; clear hq6))
              | ((go_at_call 23; refine (hS.out _ ((Below.refl _ _).drew)).mono ?_; rintro e w_1 ⟨b5, v5, v6, rfl, hq5, hb_1⟩; have hB_1 := Lib.hid ((Below.refl wr.heap.size wr).drew.trans hb_1); have q1_0 : w_1.cell? ⟨w1.heap.size, c * 3, none⟩ = some (Value.bool x1) := (hb_1.cell (p := ⟨w1.heap.size, c * 3, none⟩) lg_0).trans q0_0; have q1_1 : w_1.cell? ⟨w1.heap.size, c * 3 + 1, none⟩ = some (Value.slice A1 k1 c1) := (hb_1.cell (p := ⟨w1.heap.size, c * 3 + 1, none⟩) lg_0).trans q0_1; have q1_2 : w_1.cell? ⟨w1.heap.size, c * 3 + 2, none⟩ = some (Value.slice A2 k2 c2) := (hb_1.cell (p := ⟨w1.heap.size, c * 3 + 2, none⟩) lg_0).trans q0_2; have q1_3 : w_1.cell? ⟨bw, ow + u * 3, none⟩ = some (Value.bool x2) := (hb_1.cell (p := ⟨bw, ow + u * 3, none⟩) lbw_0).trans q0_3; have q1_4 : w_1.cell? ⟨bw, ow + u * 3 + 1, none⟩ = some (Value.slice A3 k3 c3) := (hb_1.cell (p := ⟨bw, ow + u * 3 + 1, none⟩) lbw_0).trans q0_4; have q1_5 : w_1.cell? ⟨bw, ow + u * 3 + 2, none⟩ = some (Value.slice A4 k4 c4) := (hb_1.cell (p := ⟨bw, ow + u * 3 + 2, none⟩) lbw_0).trans q0_5; have q1_6 : w_1.cell? ⟨bv, ov + m * 3, none⟩ = some (Value.bool x3) := (hb_1.cell (p := ⟨bv, ov + m * 3, none⟩) lbv_0).trans q0_6; have q1_7 : w_1.cell? ⟨bv, ov + m * 3 + 1, none⟩ = some (Value.slice A5 k5 c5) := (hb_1.cell (p := ⟨bv, ov + m * 3 + 1, none⟩) lbv_0).trans q0_7; have q1_8 : w_1.cell? ⟨bv, ov + m * 3 + 2, none⟩ = some (Value.slice A6 k6 c6) := (hb_1.cell (p := ⟨bv, ov + m * 3 + 2, none⟩) lbv_0).trans q0_8; have q1_9 : w_1.cell? ⟨bv, ov + s * 3, none⟩ = some (Value.bool x4) := (hb_1.cell (p := ⟨bv, ov + s * 3, none⟩) lbv_0).trans q0_9; have q1_10 : w_1.cell? ⟨bv, ov + s * 3 + 1, none⟩ = some (Value.slice A7 k7 c7) := (hb_1.cell (p := ⟨bv, ov + s * 3 + 1, none⟩) lbv_0).trans q0_10; have q1_11 : w_1.cell? ⟨bv, ov + s * 3 + 2, none⟩ = some (Value.slice A8 k8 c8) := (hb_1.cell (p := ⟨bv, ov + s * 3 + 2, none⟩) lbv_0).trans q0_11; have lg_1 : w1.heap.size < w_1.heap.size := Nat.lt_of_lt_of_le lg_0 hb_1.size; have lbw_1 : bw < w_1.heap.size := Nat.lt_of_lt_of_le lbw_0 hb_1.size; have lbv_1 : bv < w_1.heap.size := Nat.lt_of_lt_of_le lbv_0 hb_1.size; have HQ5 := Lib.hid hq5; clear hq5))
              | ((go_at_call 64; refine (hO.out _).mono ?_; rintro e w_0 ⟨rfl, rfl⟩))
              | ((fail)))
            all_goals go_wp2_with fail
            all_goals
              go_roundw
              case rel =>
                have hno : ∀ x, x ∈ flat ts → ∀ k q, x ≠ .int k q := noints_flat hq.out
                refine ⟨c + 1, ts.set c (b7, .slice E1 e1 f1, .slice E2 e2 f2), by omega, by go_num, Lib.hid (by rw [List.length_set]; exact hts.out), Lib.hid ?_, Lib.hid ?_, Lib.hid ?_, Lib.hid ?_⟩
                · rw [← flat_set ts c _ _ _ (by rw [hts.out]; exact hcn)]
                  exact ((P3.out.set (c * 3) (.bool b7)).set (c * 3 + 1) (.slice E1 e1 f1)).set (c * 3 + 2) (.slice E2 e2 f2)
                · intro d t ht
                  by_cases e : d = c
                  · subst e
                    rw [List.getElem?_set_self (by rw [hts.out]; exact hcn)] at ht
                    simp only [Option.some.injEq] at ht
                    subst ht
                    rw [if_pos (by omega), HACC.out]
                    exact HQ7.out.set3flat P3.out hno (by simp) (by simp)
                  · rw [List.getElem?_set_ne (by omega)] at ht
                    have := (hq.out d t ht).below hB_3.out (Nat.le_refl _)
                    rw [show (if d < c + 1 then s + 1 else s) = (if d < c then s + 1 else s) by by_cases h7 : d < c; rw [if_pos h7, if_pos (by omega)]; rw [if_neg h7, if_neg (by omega)]]
                    exact this.set3flat P3.out hno (by simp) (by simp)
                · exact ((((hbel.out.trans (hB_3.out.mono hbel.out.size))).setCell (p := ⟨w1.heap.size, c * 3, none⟩) hsz1 _).setCell (p := ⟨w1.heap.size, c * 3 + 1, none⟩) hsz1 _).setCell (p := ⟨w1.heap.size, c * 3 + 2, none⟩) hsz1 _
                · exact ((((hbel1.out.trans (hB_3.out.mono hbel1.out.size))).setCell (p := ⟨w1.heap.size, c * 3, none⟩) (Nat.le_refl _) _).setCell (p := ⟨w1.heap.size, c * 3 + 1, none⟩) (Nat.le_refl _) _).setCell (p := ⟨w1.heap.size, c * 3 + 2, none⟩) (Nat.le_refl _) _
              case measure => simp [intOf]; omega
        · obtain rfl : c = n := by omega
          go_wp2_with fail
          go_roundw
          case rel => exact ⟨s + 1, ts, by omega, by go_num, hts, P, Lib.hid (fun d t ht => by
            have := hq.out d t ht
            rwa [if_pos (by have := (List.getElem?_eq_some_iff.1 ht).1; rw [hts.out] at this; exact this)] at this), hbel, hbel1⟩
          case measure => simp [intOf]; omega
    · obtain rfl : s = S := by omega
      go_wp2_with fail
      go_ret
      refine ⟨_, rfl, P.out.row3 (by simp [shs]) (by rw [hts.out]; simp [shs]) (by unfold maxLen; omega) (fun c t q ht hq' => ?_), hbel.out⟩
      have hc : c < n := by have := (List.getElem?_eq_some_iff.1 ht).1; rw [hts.out] at this; exact this
      have := hq.out c t ht
      have e3 : (shs v n)[c]? = some (acc v n c (2 ^ n)) := by
        unfold shs; rw [List.getElem?_map, List.getElem?_range hc]; rfl
      rw [e3, HV.out.2] at hq'
      injection hq' with hq'
      rw [← hq']; exact this


end Go.Proofs.YtjfkniknmkcdcaaGreatDoor
