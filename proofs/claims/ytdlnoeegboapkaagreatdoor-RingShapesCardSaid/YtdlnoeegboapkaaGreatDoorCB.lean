/-
  Texts of this claim, joined: Forms, Shift, Shr, Bits, Sub, Mul, Short, Bytes, Dec, Format.
-/
import Derived.Test.YtdlnoeegboapkaaGreatDoorCA
import Derived.WalkSpells
import Derived.Lib.Strings
import Derived.Lib.Slices
import Derived.Lib.Small
import Derived.Lib.Walk
import Derived.Lib.BitFns
import Derived.Laws.BytesArg
namespace Go.Proofs.YtdlnoeegboapkaaGreatDoor
open Go.RowKit
set_option maxHeartbeats 40000000
set_option maxRecDepth 100000
set_option synthInstance.maxHeartbeats 1000000
set_option synthInstance.maxSize 100000
section
theorem numTrim_raw (w : World) (a : Option Addr) (cap : Nat) (l : List Nat) (hc : l.length ≤ cap) (hcm : cap ≤ 9223372036854775807) (hd : Dig l) (hr : Cells w a l) :
    Calls Tryz.prog 127 #[.slice a l.length cap] w fun e w' => e = .returned (.slice a (nf (val l)).length cap) ∧ w = w' := by
  go_enter Tryz.func127, Tryz.ntmps127; go_wp2
  go_loop [3] (fun v => ∃ k : Nat, k ≤ l.length ∧ v = .int .i64 k ∧ Hid (val (l.take k) = val l)) (fun v => (intOf v).toNat)
  case atStart => exact ⟨l.length, Nat.le_refl _, rfl, by show _ = _; rw [List.take_length]⟩
  case round =>
    obtain ⟨k, hk, rfl, hv⟩ := hrel
    by_cases h0 : k = 0
    · subst h0
      have e := nf_take hd hk hv.out (.inl rfl)
      have e2 : (nf (val l)).length = 0 := by rw [e]; simp
      have E2 := Lib.hid e2; clear e e2; go_wp2; go_ret
      exact ⟨by rw [E2.out]; rfl, rfl⟩
    · obtain ⟨b, off, rfl, hcell⟩ := hr (by omega); have h1 : 0 < k := (by omega)
      have hc1 := hcell (k - 1) (by omega)
      clear hcell
      by_cases hz : l.getD (k - 1) 0 = 0
      · have hv2 : val (l.take (k - 1)) = val l := by
          have := val_take_snoc l (k - 1) (by omega)
          rw [Nat.sub_add_cancel h1, hz, Nat.mul_zero, Nat.add_zero, hv.out] at this; exact this.symm
        have HV := Lib.hid hv2
        generalize l.getD (k - 1) 0 = d at *
        have hz' := i32_eq_zero hz
        clear hz hv hv2; go_wp2
        go_round
        case rel => exact ⟨k - 1, by omega, by go_num, HV⟩
        case measure => simp [intOf]; omega
      · have e := nf_take hd hk hv.out (.inr hz)
        have e2 : (nf (val l)).length = k := by rw [e, List.length_take]; omega
        have E2 := Lib.hid e2
        generalize l.getD (k - 1) 0 = d at *
        have hz' := i32_ne_zero hz
        clear e e2 hz hv; go_wp2; go_ret
        exact ⟨by rw [E2.out]; rfl, rfl⟩
theorem numTrim_own (w : World) (base : Nat) (v : Value) (l : List Nat) (h : Own w base v l) :
    Calls Tryz.prog 127 #[v] w fun e w' => ∃ v', e = .returned v' ∧ Own w base v' (nf (val l)) ∧ w = w' := by
  rcases h.shape with ⟨rfl, rfl⟩ | ⟨g, cap, rfl, h1, h2, h3, h4, h5, _⟩
  · refine (numTrim_raw w none 0 [] (Nat.le_refl _) (by omega) dig_nil (fun h => absurd h (by simp))).mono ?_
    rintro e w' ⟨rfl, rfl⟩
    exact ⟨_, rfl, Own.nil _ _, rfl⟩
  · refine (numTrim_raw w _ cap l h3 h4 h.1 (fun _ => ⟨g, 0, rfl, fun i hi => by rw [Nat.zero_add]; exact h5 i hi⟩)).mono ?_
    rintro e w' ⟨rfl, rfl⟩
    refine ⟨_, rfl, ?_, rfl⟩
    have := Own.take h (nf (val l)).length (nf_val_len h.1)
    rw [← nf_prefix h.1] at this; exact this
theorem trim_own (w : World) (base : Nat) (v : Value) (l : List Nat) (h : Own w base v l) :
    Calls Tryz.prog 191 #[v] w fun e w' => ∃ v', e = .returned v' ∧ Own w base v' (nf (val l)) ∧ w = w' := by
  rcases h.shape with ⟨rfl, rfl⟩ | ⟨g, cap, rfl, h1, h2, h3, h4, h5, _⟩
  · refine (trim_raw w none 0 [] (Nat.le_refl _) (by omega) dig_nil (fun h => absurd h (by simp))).mono ?_
    rintro e w' ⟨rfl, rfl⟩
    exact ⟨_, rfl, Own.nil _ _, rfl⟩
  · exact trim_row w base g cap l.length l h rfl
theorem clone_any (w : World) (v : Value) (l : List Nat) (h : Rd w v l) (hl : l.length ≤ 1000000) :
    Calls Tryz.prog 274 #[v] w fun e w' => ∃ z, e = .returned z ∧ Own w' w.heap.size z l ∧ Below w.heap.size w w' := by
  have hR := h
  obtain ⟨a, cap, rfl, hc, hcm, hd, hr⟩ := h
  have hnil : ∀ w n c, (binOp .eql 25 (.slice a n c) (.slice none 0 0)).run Tryz.prog w = .ok (.bool a.isNone) w := fun w n c => Lib.run_eql_slice_nil w 25 106 a n c 0 0 Tryz.underlying25
  rcases a with _ | ad
  · have hl0 : l = [] := by
      rcases Nat.eq_zero_or_pos l.length with h0 | h0
      · exact List.eq_nil_of_length_eq_zero h0
      · obtain ⟨b, off, e, _⟩ := hr h0
        cases e
    subst hl0; go_enter Tryz.func274, Tryz.ntmps274; go_wp2; go_ret; exact ⟨_, rfl, Own.nil _ _, Below.refl _ _⟩
  · go_enter Tryz.func274, Tryz.ntmps274
    go_wp2_with (at_builtin; go_loud (refine app_u32 _ rfl (.tmp 5) (.tmp 6) 25 25 rfl Tryz.underlying25 Tryz.underlying25 w.heap.size _ _ [] l rfl rfl (own_lit w [] dig_nil (by simp) _ rfl) (hR.keep ((Below.refl _ _).alloc (Nat.le_refl _) _)) (by simp; omega) (by simp) ?_); intro v1 w1 o1 g1 _)
    go_ret; exact ⟨_, rfl, o1, own_grown (own_lit w [] dig_nil (by simp) _ rfl) ((Below.refl _ _).alloc (Nat.le_refl _) _) g1 (Nat.le_refl _)⟩
theorem norm_any (w : World) (v : Value) (l : List Nat) (h : Rd w v l) (hl : l.length ≤ 1000000) :
    Calls Tryz.prog 216 #[v] w fun e w' => ∃ z, e = .returned z ∧ Own w' w.heap.size z (nf (val l)) ∧ Below w.heap.size w w' := by
  have hle := nf_val_len h.dig
  go_enter Tryz.func216, Tryz.ntmps216; go_wp2_with fail
  refine (trim_any _ _ _ h).mono ?_
  rintro e w1 ⟨v', rfl, h', rfl⟩
  go_wp2_with fail
  refine (clone_any _ _ _ h' (by omega)).mono ?_
  rintro e w1 ⟨z, rfl, ho, hb⟩
  go_wp2; go_ret; exact ⟨_, rfl, ho, hb⟩
theorem refN_any (w : World) (v : Value) (l : List Nat) (h : Rd w v l) (hl : l.length ≤ 1000000) :
    Calls Tryz.prog 63 #[v] w fun e w' => ∃ z, e = .returned z ∧ Own w' w.heap.size z (nf (val l)) ∧ Below w.heap.size w w' := by
  have hB0 : Below w.heap.size w (w.alloc (.cells #[] 106)) := (Below.refl _ _).alloc (Nat.le_refl _) _
  go_enter Tryz.func63, Tryz.ntmps63
  go_wp2_with (at_builtin; go_loud (refine app_u32 _ rfl (.tmp 3) (.tmp 4) 24 25 rfl Tryz.underlying24 Tryz.underlying25 w.heap.size _ _ [] l rfl rfl (own_lit w [] dig_nil (by simp) _ rfl) (h.keep hB0) (by simp; omega) (by simp) ?_); intro v1 w1 o1 g1 _)
  have hB1 := own_grown (own_lit w [] dig_nil (by simp) _ rfl) hB0 g1 (Nat.le_refl _)
  refine (numTrim_own _ _ _ _ o1).mono ?_
  rintro e w2 ⟨z, rfl, ho, rfl⟩
  go_wp2; go_ret; exact ⟨_, rfl, ho, hB1⟩
theorem refToN_any (w : World) (v : Value) (l : List Nat) (h : Rd w v l) (hl : l.length ≤ 1000000) :
    Calls Tryz.prog 102 #[v] w fun e w' => ∃ z, e = .returned z ∧ Own w' w.heap.size z l ∧ Below w.heap.size w w' := by
  have hB0 : Below w.heap.size w (w.alloc (.cells #[] 106)) := (Below.refl _ _).alloc (Nat.le_refl _) _
  go_enter Tryz.func102, Tryz.ntmps102
  go_wp2_with (at_builtin; go_loud (refine app_u32 _ rfl (.tmp 3) (.tmp 4) 25 41 rfl Tryz.underlying25 Tryz.underlying41 w.heap.size _ _ [] l rfl rfl (own_lit w [] dig_nil (by simp) _ rfl) (h.keep hB0) (by simp; omega) (by simp) ?_); intro v1 w1 o1 g1 _)
  go_ret; exact ⟨_, rfl, o1, own_grown (own_lit w [] dig_nil (by simp) _ rfl) hB0 g1 (Nat.le_refl _)⟩
theorem two_digits {u : Nat} (hu : u < 18446744073709551616) : Dig [u % 4294967296, u / 4294967296] ∧ val [u % 4294967296, u / 4294967296] = u := by
  refine ⟨dig_cons (by omega) (dig_cons (by omega) dig_nil), ?_⟩
  rw [val_cons, val_cons, val_nil]; omega
theorem fromUint_any (w : World) (u : Nat) (hu : u < 18446744073709551616) :
    Calls Tryz.prog 217 #[.int .u64 (u : Int)] w fun e w' => ∃ z, e = .returned z ∧ Own w' w.heap.size z (nf u) ∧ Below w.heap.size w w' := by
  have h2 := two_digits hu
  have e1 : #[Value.int .u32 ((u : Int) % 4294967296), Value.int .u32 ((u : Int) / 4294967296)] = ([u % 4294967296, u / 4294967296].map dv).toArray := by
    show _ = #[Value.int .u32 ((u % 4294967296 : Nat) : Int), Value.int .u32 ((u / 4294967296 : Nat) : Int)]
    rw [Int.natCast_emod, Int.natCast_ediv]; rfl
  have ho := own_lit w _ h2.1 (by simp) _ e1
  have HV := Lib.hid h2.2; have HO := Lib.hid ho; clear e1 h2 ho; go_enter Tryz.func217, Tryz.ntmps217; go_wp2_with fail
  refine (trim_own _ _ _ _ HO.out).mono ?_
  rintro e w1 ⟨z, rfl, ho, rfl⟩
  rw [HV.out] at ho; go_wp2; go_ret; exact ⟨_, rfl, ho, (Below.refl _ _).alloc (Nat.le_refl _) _⟩
theorem word_any (w : World) (u : Nat) (hu : u < 18446744073709551616) :
    Calls Tryz.prog 126 #[.int .u64 (u : Int)] w fun e w' => ∃ z, e = .returned z ∧ Own w' w.heap.size z (nf u) ∧ Below w.heap.size w w' := by
  have h2 := two_digits hu
  have e1 : #[Value.int .u32 ((u : Int) % 4294967296), Value.int .u32 ((u : Int) / 4294967296)] = ([u % 4294967296, u / 4294967296].map dv).toArray := by
    show _ = #[Value.int .u32 ((u % 4294967296 : Nat) : Int), Value.int .u32 ((u / 4294967296 : Nat) : Int)]
    rw [Int.natCast_emod, Int.natCast_ediv]; rfl
  have ho := own_lit w _ h2.1 (by simp) _ e1
  have HV := Lib.hid h2.2; have HO := Lib.hid ho; clear e1 h2 ho; go_enter Tryz.func126, Tryz.ntmps126; go_wp2_with fail
  refine (numTrim_own _ _ _ _ HO.out).mono ?_
  rintro e w1 ⟨z, rfl, ho, rfl⟩
  rw [HV.out] at ho; go_wp2; go_ret; exact ⟨_, rfl, ho, (Below.refl _ _).alloc (Nat.le_refl _) _⟩
theorem or_zero (d : Nat) (hd : d < 18446744073709551616) : bits .or .u64 0 (d : Int) = (d : Int) := by
  have := u64_or_nat 0 d (by omega) hd
  rw [Nat.zero_or] at this; exact this
theorem or_high (x y : Nat) (hx : x < 4294967296) (hy : y < 4294967296) : bits .or .u64 (x : Int) ((y : Int) * 4294967296) = ((x + 4294967296 * y : Nat) : Int) := by
  have e : x ||| y * 4294967296 = x + 4294967296 * y := by
    have := Nat.two_pow_add_eq_or_of_lt (i := 32) (b := x) (by simpa using hx) y
    rw [Nat.or_comm, Nat.mul_comm y, Nat.add_comm]; exact this.symm
  have h := u64_or_nat x (y * 4294967296) (by omega) (by omega)
  rw [e] at h; rw [← h]
  congr 1
theorem high_or (x y : Nat) (hx : x < 4294967296) (hy : y < 4294967296) : bits .or .u64 ((y : Int) * 4294967296) (x : Int) = ((x + 4294967296 * y : Nat) : Int) := by
  have e : y * 4294967296 ||| x = x + 4294967296 * y := by
    have := Nat.two_pow_add_eq_or_of_lt (i := 32) (b := x) (by simpa using hx) y
    rw [Nat.mul_comm y, Nat.add_comm]; exact this.symm
  have h := u64_or_nat (y * 4294967296) x (by omega) (by omega)
  rw [e] at h; rw [← h]
  congr 1
def uintV (n : Nat) : Value := .tuple #[.int .u64 ((if n < 18446744073709551616 then n else 0 : Nat) : Int), .bool (decide (n < 18446744073709551616))]
theorem uintV_lt {n : Nat} (h : n < 18446744073709551616) : uintV n = .tuple #[.int .u64 (n : Int), .bool true] := by
  unfold uintV; rw [if_pos h, decide_eq_true h]
theorem uintV_ge {n : Nat} (h : 18446744073709551616 ≤ n) : uintV n = .tuple #[.int .u64 0, .bool false] := by
  unfold uintV; rw [if_neg (by omega), decide_eq_false (by omega)]; rfl
theorem nf_cases (n : Nat) : (n = 0 ∧ nf n = []) ∨ (∃ d0, d0 < 4294967296 ∧ n = d0 ∧ nf n = [d0]) ∨ (∃ d0 d1, d0 < 4294967296 ∧ d1 < 4294967296 ∧ n = d0 + 4294967296 * d1 ∧ nf n = [d0, d1]) ∨ (18446744073709551616 ≤ n ∧ 3 ≤ (nf n).length) := by
  have hv := val_nf n
  have hd := dig_nf n
  match h : nf n, hv, hd with
  | [], hv, hd => exact .inl ⟨hv.symm, rfl⟩
  | [d], hv, hd =>
    rw [val_cons, val_nil] at hv
    have h0 := hd d (by simp)
    obtain rfl : d = n := by omega
    exact .inr (.inl ⟨_, h0, rfl, rfl⟩)
  | [d0, d1], hv, hd =>
    rw [val_cons, val_cons, val_nil] at hv; exact .inr (.inr (.inl ⟨d0, d1, hd d0 (by simp), hd d1 (by simp), by omega, rfl⟩))
  | d0 :: d1 :: d2 :: l, hv, hd =>
    refine .inr (.inr (.inr ⟨?_, by simp⟩))
    rcases Nat.lt_or_ge n 18446744073709551616 with hlt | hge
    · have := nf_len_le (n := n) (k := 2) (by simpa using hlt)
      rw [h] at this; simp at this
    · exact hge
theorem uint_any (w : World) (v : Value) (l : List Nat) (h : Rd w v l) :
    Calls Tryz.prog 252 #[v] w fun e w' => e = .returned (uintV (val l)) ∧ w = w' := by
  go_enter Tryz.func252, Tryz.ntmps252; go_wp2_with fail
  refine (trim_any _ _ _ h).mono ?_
  rintro e w1 ⟨v', rfl, h', rfl⟩
  obtain ⟨a, cap, hv, hc, hcm, hd, hr⟩ := h'
  rcases nf_cases (val l) with ⟨hn, hl⟩ | ⟨d0, b0, hn, hl⟩ | ⟨d0, d1, b0, b1, hn, hl⟩ | ⟨hn, hl⟩
  · rw [hl] at hv; subst hv
    have HN := Lib.hid (show uintV (val l) = .tuple #[.int .u64 0, .bool true] by rw [hn]; exact uintV_lt (by omega))
    clear hn hl hc hd hr; go_wp2
    refine wp_loop_rounds 1 ?_
    rw [rounds_succ]; go_wp2; go_ret2
    exact ⟨by rw [HN.out]; rfl, rfl⟩
  · rw [hl] at hv hc hd hr; subst hv; obtain ⟨b, off, rfl, hcell⟩ := hr (by simp)
    have c0 := hcell 0 (by simp)
    have HN := Lib.hid (show uintV (val l) = .tuple #[.int .u64 (d0 : Int), .bool true] by rw [hn]; exact uintV_lt (by omega))
    simp only [List.length_cons, List.length_nil, Nat.reduceAdd, List.getD_eq_getElem?_getD, List.getElem?_cons_zero, Option.getD_some, Nat.add_zero] at c0 hc ⊢
    have ho := or_zero d0 (by omega)
    clear hcell hn hl hr hd; go_wp2
    refine wp_loop_rounds 2 ?_
    rw [rounds_succ]; go_wp2; rw [rounds_succ]; go_wp2; go_ret2
    exact ⟨by rw [HN.out]; rfl, rfl⟩
  · rw [hl] at hv hc hd hr; subst hv; obtain ⟨b, off, rfl, hcell⟩ := hr (by simp)
    have c0 := hcell 0 (by simp)
    have c1 := hcell 1 (by simp)
    have HN := Lib.hid (show uintV (val l) = .tuple #[.int .u64 ((d0 : Int) + 4294967296 * (d1 : Int)), .bool true] by rw [hn, uintV_lt (by omega)]; rfl)
    simp only [List.length_cons, List.length_nil, Nat.reduceAdd, List.getD_eq_getElem?_getD, List.getElem?_cons_zero, List.getElem?_cons_succ, Option.getD_some, Nat.add_zero] at c0 c1 hc ⊢
    have ho := or_zero d0 (by omega)
    have ho2 := or_high d0 d1 b0 b1
    clear hcell hn hl hr hd; go_wp2
    refine wp_loop_rounds 3 ?_
    rw [rounds_succ]; go_wp2; rw [rounds_succ]; go_wp2; rw [rounds_succ]; go_wp2; go_ret2
    exact ⟨by rw [HN.out]; rfl, rfl⟩
  · subst hv; have HN := Lib.hid (uintV_ge hn)
    generalize (nf (val l)).length = n at *
    have h2 : ((2 : Int) < (n : Int)) := (by omega); clear hn hr hd; go_wp2; go_ret2
    exact ⟨by rw [HN.out]; rfl, rfl⟩
end
section
def p2 (s : Nat) : Nat := 2 ^ s
theorem p2_pos (s : Nat) : 0 < p2 s := Nat.pow_pos (by omega)
theorem p2_le {s : Nat} (h : s < 32) : p2 s ≤ 2147483648 := by
  have : 2 ^ s ≤ 2 ^ 31 := Nat.pow_le_pow_right (by omega) (by omega)
  exact this
theorem p2_dvd {s : Nat} (h : s ≤ 32) : p2 s * p2 (32 - s) = 4294967296 := by
  unfold p2; rw [← Nat.pow_add, Nat.add_sub_cancel' h]
theorem or_u32 {s y x : Nat} (hs : s < 32) (hy : y < p2 s) :
    bits .or .u32 (y : Int) (((x : Int) * (p2 s : Int)) % 4294967296) = ((y + x * p2 s % 4294967296 : Nat) : Int) ∧ y + x * p2 s % 4294967296 < 4294967296 := by
  have hd := p2_dvd (s := s) (by omega)
  have hpp := p2_pos (32 - s)
  have hle := p2_le hs
  have e : x * p2 s % 4294967296 = p2 s * (x % p2 (32 - s)) := by
    rw [← hd, Nat.mul_comm x, Nat.mul_mod_mul_left]
  have hlt : x % p2 (32 - s) < p2 (32 - s) := Nat.mod_lt _ hpp
  have hlt2 : p2 s * (x % p2 (32 - s)) + p2 s ≤ 4294967296 := by
    have : p2 s * (x % p2 (32 - s) + 1) ≤ p2 s * p2 (32 - s) := Nat.mul_le_mul_left _ hlt
    rw [Nat.mul_add, hd] at this; omega
  have ho : y ||| x * p2 s % 4294967296 = y + x * p2 s % 4294967296 := by
    rw [e, Nat.or_comm, Nat.add_comm y]; exact (Nat.two_pow_add_eq_or_of_lt (i := s) (b := y) hy (x % p2 (32 - s))).symm
  have h := u32_or_nat y (x * p2 s % 4294967296) (by omega) (by rw [e]; omega)
  rw [ho] at h
  refine ⟨?_, by rw [e]; omega⟩
  rw [← h, Int.natCast_emod, Int.natCast_mul]; rfl
theorem shl_step {L : List Nat} {T x q s j : Nat} (hj : q + j + 1 < L.length) (hx : x < 4294967296)
    (hz : ∀ i, q + j + 1 ≤ i → L.getD i 0 = 0) (h : val L = 4294967296 ^ q * (T * p2 s)) (y : Nat) (hgy : L.getD (q + j) 0 = y) :
    let L' := (L.set (q + j) (y + x * p2 s % 4294967296)).set (q + j + 1) (x * p2 s / 4294967296)
    x * p2 s / 4294967296 < p2 s ∧ L'.getD (q + (j + 1)) 0 < p2 s ∧ (∀ i, q + (j + 1) + 1 ≤ i → L'.getD i 0 = 0) ∧ val L' = 4294967296 ^ q * ((T + 4294967296 ^ j * x) * p2 s) := by
  intro L'; subst hgy
  have hpp := p2_pos s
  have hlt : x * p2 s / 4294967296 < p2 s := by
    apply Nat.div_lt_of_lt_mul
    exact (Nat.mul_lt_mul_right hpp).2 hx
  have e1 : q + (j + 1) = q + j + 1 := (by omega)
  have hlen1 : q + j + 1 < (L.set (q + j) (L.getD (q + j) 0 + x * p2 s % 4294967296)).length := by simpa using hj
  refine ⟨hlt, ?_, fun i hi => ?_, ?_⟩
  · rw [e1, set_getD_eq _ _ _ hlen1]; exact hlt
  · rw [set_getD_ne _ _ _ _ (by omega), set_getD_ne _ _ _ _ (by omega)]; exact hz i (by omega)
  · have h2 := val_set L (q + j) (L.getD (q + j) 0 + x * p2 s % 4294967296) (by omega)
    have h3 : val L' = val (L.set (q + j) (L.getD (q + j) 0 + x * p2 s % 4294967296)) + 4294967296 ^ (q + j + 1) * (x * p2 s / 4294967296) := by
      refine last_carry hlen1 ?_
      rw [set_getD_ne _ _ _ _ (by omega)]; exact hz _ (by omega)
    have e2 : 4294967296 ^ (q + j) * (x * p2 s % 4294967296) + 4294967296 ^ (q + j + 1) * (x * p2 s / 4294967296) = 4294967296 ^ (q + j) * (x * p2 s) := by
      rw [Nat.pow_succ, Nat.mul_assoc, ← Nat.mul_add]
      congr 1
      exact Nat.mod_add_div _ _
    have e3 : 4294967296 ^ q * ((T + 4294967296 ^ j * x) * p2 s) = 4294967296 ^ q * (T * p2 s) + 4294967296 ^ (q + j) * (x * p2 s) := by
      rw [Nat.add_mul, Nat.mul_add, Nat.pow_add, Nat.mul_assoc, Nat.mul_assoc]
    rw [Nat.mul_add] at h2; rw [h3, e3, ← h]; omega
theorem pow_split (k : Nat) : 4294967296 ^ (k / 32) * p2 (k % 32) = 2 ^ k := by
  unfold p2
  have : (4294967296 : Nat) = 2 ^ 32 := by decide
  rw [this, ← Nat.pow_mul, ← Nat.pow_add, Nat.div_add_mod]
theorem mulp_int {x P : Nat} (hx : x < 4294967296) (hP : P ≤ 2147483648) : (0 : Int) ≤ (x : Int) * (P : Int) ∧ (x : Int) * (P : Int) ≤ 9223372034707292160 := by
  have h : x * P ≤ 4294967295 * 2147483648 := Nat.mul_le_mul (by omega) hP
  rw [← Int.natCast_mul]; omega
theorem pow_int (K : Nat) : (2 : Int) ^ ((K : Int) % 32).toNat = (p2 (K % 32) : Int) := by
  unfold p2
  have : ((K : Int) % 32).toNat = K % 32 := by omega
  rw [this, Int.natCast_pow]; rfl
theorem shl_any (w : World) (u : Value) (la : List Nat) (k : Nat) (hu : Rd w u la) (hla : la.length ≤ 1000000) (hk : k ≤ 1048576) :
    Calls Tryz.prog 294 #[u, .int .u64 (k : Int)] w fun e w' => ∃ z, e = .returned z ∧ Own w' w.heap.size z (nf (val la * 2 ^ k)) ∧ Below w.heap.size w w' := by
  have hle := nf_val_len hu.dig
  have hmin : min (k : Int) 1048576 = (k : Int) := (by omega); go_enter Tryz.func294, Tryz.ntmps294; go_wp2_with fail
  refine (trim_any _ _ _ hu).mono ?_
  rintro e w1 ⟨u', rfl, hu', rfl⟩
  by_cases hn : val la = 0
  · have HN := Lib.hid (show val la * 2 ^ k = 0 by rw [hn, Nat.zero_mul]); rw [hn] at hu'; obtain ⟨a, capa, rfl, _, _, hda, hra⟩ := hu'
    have hb : (((nf 0).length : Int) == 0) = true := rfl
    have h0 : (nf 0).length = 0 := rfl
    generalize (nf 0).length = n at *
    subst h0; clear hn hle; go_wp2; go_ret
    exact ⟨_, rfl, by rw [HN.out]; exact Own.nil _ _, Below.refl _ _⟩
  · have hp := nf_len_pos hn
    have hva := Lib.hid (val_nf (val la))
    have hb : (((nf (val la)).length : Int) == 0) = false := by rw [beq_eq_false_iff_ne]; omega
    generalize nf (val la) = xs at *
    obtain ⟨a, capa, rfl, _, _, hda, hra⟩ := hu'; have hx1 : xs.length ≤ 1000000 := (by omega)
    have hs : k % 32 < 32 := Nat.mod_lt _ (by omega)
    clear hn hu hle hla
    go_wp2_with (at_make; go_loud (refine make_u32 _ rfl (.tmp 27) (.tmp 27) 25 rfl Tryz.underlying25 _ _ (xs.length + k / 32 + 1) rfl rfl (by omega) (by omega) (by omega) ?_); intro w1 R0 B0)
    go_loopw [31] (fun i wr => ∃ (j : Nat) (L : List Nat), j ≤ xs.length ∧ i = .int .i64 j ∧ Row wr w.heap.size w.heap.size (xs.length + k / 32 + 1) L ∧ Hid (L.length = xs.length + k / 32 + 1) ∧ Below w.heap.size w wr ∧
        Hid (L.getD (k / 32 + j) 0 < p2 (k % 32)) ∧ Hid (∀ i, k / 32 + j + 1 ≤ i → L.getD i 0 = 0) ∧ Hid (val L = 4294967296 ^ (k / 32) * (val (xs.take j) * p2 (k % 32)))) (fun i _ => xs.length - (intOf i).toNat)
    case atStart => exact ⟨0, _, Nat.zero_le _, rfl, R0, by show _ = _; simp, B0, by show _ < _; rw [getD_replicate]; exact p2_pos _, fun j _ => getD_replicate _ _, by show _ = _; simp [val_replicate, val_nil]⟩
    case round =>
      obtain ⟨j, L, hj, rfl, hR, hL, hB, hy, hz, hv⟩ := hrel
      have hRl := hR.lt
      have hRc := hR.cap
      by_cases hlt : j < xs.length
      · obtain ⟨ba, offa, rfl, cA⟩ := hra.at hB hlt
        have hx := dig_get hda j
        have hvt := val_take_snoc xs j hlt
        have hst := fun x hx => @shl_step L (val (xs.take j)) x (k / 32) (k % 32) j (by rw [hL.out]; omega) hx hz.out hv.out
        have hst := hst _ hx _ rfl
        rw [← hvt] at hst
        generalize xs.getD j 0 = x at *
        have cR := hR.cell (j := k / 32 + j) (by rw [hL.out]; omega)
        have fR := hR.free (k / 32 + j)
        have cR2 := hR.cell (j := k / 32 + j + 1) (by rw [hL.out]; omega)
        have fR2 := hR.free (k / 32 + j + 1)
        have hy1 := hy.out
        generalize L.getD (k / 32 + j) 0 = y at *
        generalize L.getD (k / 32 + j + 1) 0 = z at *
        have e1 : k / 32 + j = j + k / 32 := (by omega); rw [e1] at cR fR cR2 fR2
        have hor := or_u32 (x := x) hs hy1
        have hpi := pow_int k
        have hP := p2_le hs
        have hm := mulp_int hx hP
        have HO := Lib.hid hor.2
        have hor1 := hor.1
        have HST := Lib.hid hst; have hs1 : (k : Int) % 32 < 32 := (by omega); have hs0 : 0 ≤ (k : Int) % 32 := (by omega)
        generalize hgP : p2 (k % 32) = P at *
        clear hra hst hvt hor e1 hgP hy1; go_wp2
        go_roundw
        case rel =>
          obtain ⟨s1, s2, s3, s4⟩ := HST.out
          have e3 : (y : Int) + (x : Int) * (P : Int) % 4294967296 = ((y + x * P % 4294967296 : Nat) : Int) := by rw [Int.natCast_add, Int.natCast_emod, Int.natCast_mul]; rfl
          have e4 : (x : Int) * (P : Int) / 4294967296 = ((x * P / 4294967296 : Nat) : Int) := by rw [Int.natCast_ediv, Int.natCast_mul]; rfl
          have e1 : k / 32 + j = j + k / 32 := (by omega); rw [e3, e4]; rw [e1] at s2 s3 s4
          exact ⟨j + 1, _, by omega, by go_num, (hR.set (j + k / 32) HO.out).set (j + k / 32 + 1) (by omega), by show _ = _; rw [List.length_set, List.length_set]; exact hL.out,
            (hB.setCell (Nat.le_refl _) _).setCell (Nat.le_refl _) _, s2, s3, s4⟩
        case measure => simp [intOf]; omega
      · have hjl : j = xs.length := by omega
        subst hjl
        have hv2 := hv.out
        rw [List.take_length, hva.out] at hv2
        have hv3 : val L = val la * 2 ^ k := by rw [hv2, ← pow_split k]; ac_rfl
        have HV := Lib.hid hv3; clear hv2 hv3 hra
        go_wp2_with (go_at_call 191; refine (trim_row _ _ _ _ _ _ hR hL.out).mono ?_; rintro e w2 ⟨v, rfl, ho, rfl⟩)
        go_ret; rw [HV.out] at ho; exact ⟨v, rfl, ho, hB⟩
theorem left_any (w : World) (u : Value) (m : Nat) (k : Nat) (hu : Rd w u (nf m)) (hla : (nf m).length ≤ 1000000) (hk : k ≤ 10000000) :
    Calls Tryz.prog 260 #[u, .int .i64 (k : Int)] w fun e w' => ∃ z, e = .returned z ∧ Own w' w.heap.size z (nf (m * 2 ^ k)) ∧ Below w.heap.size w w' := by
  have hva := Lib.hid (val_nf m)
  generalize nf m = xs at *
  obtain ⟨a, capa, rfl, _, _, hda, hra⟩ := hu
  have hs : k % 32 < 32 := Nat.mod_lt _ (by omega)
  go_enter Tryz.func260, Tryz.ntmps260
  go_wp2_with (at_make; go_loud (refine make_u32 _ rfl (.tmp 15) (.tmp 15) 24 rfl Tryz.underlying24 _ _ (k / 32 + xs.length + 1) rfl rfl (by omega) (by omega) (by omega) ?_); intro w1 R0 B0)
  go_loopw [22] (fun i wr => ∃ (j : Nat) (L : List Nat), j ≤ xs.length ∧ i = .int .i64 j ∧ Row wr w.heap.size w.heap.size (k / 32 + xs.length + 1) L ∧ Hid (L.length = k / 32 + xs.length + 1) ∧ Below w.heap.size w wr ∧
      Hid (L.getD (k / 32 + j) 0 < p2 (k % 32)) ∧ Hid (∀ i, k / 32 + j + 1 ≤ i → L.getD i 0 = 0) ∧ Hid (val L = 4294967296 ^ (k / 32) * (val (xs.take j) * p2 (k % 32)))) (fun i _ => xs.length - (intOf i).toNat)
  case atStart => exact ⟨0, _, Nat.zero_le _, rfl, R0, by show _ = _; simp, B0, by show _ < _; rw [getD_replicate]; exact p2_pos _, fun j _ => getD_replicate _ _, by show _ = _; simp [val_replicate, val_nil]⟩
  case round =>
    obtain ⟨j, L, hj, rfl, hR, hL, hB, hy, hz, hv⟩ := hrel
    have hRl := hR.lt
    have hRc := hR.cap
    by_cases hlt : j < xs.length
    · obtain ⟨ba, offa, rfl, cA⟩ := hra.at hB hlt
      have hx := dig_get hda j
      have hvt := val_take_snoc xs j hlt
      have hst := fun x hx => @shl_step L (val (xs.take j)) x (k / 32) (k % 32) j (by rw [hL.out]; omega) hx hz.out hv.out
      have hst := hst _ hx _ rfl
      rw [← hvt] at hst
      generalize xs.getD j 0 = x at *
      have cR := hR.cell (j := k / 32 + j) (by rw [hL.out]; omega)
      have fR := hR.free (k / 32 + j)
      have cR2 := hR.cell (j := k / 32 + j + 1) (by rw [hL.out]; omega)
      have fR2 := hR.free (k / 32 + j + 1)
      rw [hz.out _ (Nat.le_refl _)] at cR2
      have hy1 := hy.out
      generalize L.getD (k / 32 + j) 0 = y at *
      have hor := or_u32 (x := x) hs hy1
      have hpi := pow_int k
      have hP := p2_le hs
      have hm := mulp_int hx hP
      have HO := Lib.hid hor.2
      have hor1 := hor.1
      have HST := Lib.hid hst; have hs1 : (k : Int) % 32 < 32 := (by omega); have hs0 : 0 ≤ (k : Int) % 32 := (by omega)
      generalize hgP : p2 (k % 32) = P at *
      have hor2 : bits .or .u32 0 ((x : Int) * (P : Int) / 4294967296) = (x : Int) * (P : Int) / 4294967296 := by
        have h1 : (x : Int) * (P : Int) / 4294967296 = ((x * P / 4294967296 : Nat) : Int) := by rw [Int.natCast_ediv, Int.natCast_mul]; rfl
        have h2 := u32_or_nat 0 (x * P / 4294967296) (by omega) (by have := hst.1; omega)
        rw [Nat.zero_or] at h2
        rw [h1]; exact h2
      clear hra hst hvt hor hgP hy1; go_wp2
      go_roundw
      case rel =>
        obtain ⟨s1, s2, s3, s4⟩ := HST.out
        have e3 : (y : Int) + (x : Int) * (P : Int) % 4294967296 = ((y + x * P % 4294967296 : Nat) : Int) := by rw [Int.natCast_add, Int.natCast_emod, Int.natCast_mul]; rfl
        have e4 : (x : Int) * (P : Int) / 4294967296 = ((x * P / 4294967296 : Nat) : Int) := by rw [Int.natCast_ediv, Int.natCast_mul]; rfl
        rw [e3, e4]
        exact ⟨j + 1, _, by omega, by go_num, (hR.set (k / 32 + j) HO.out).set (k / 32 + j + 1) (by omega), by show _ = _; rw [List.length_set, List.length_set]; exact hL.out,
          (hB.setCell (Nat.le_refl _) _).setCell (Nat.le_refl _) _, s2, s3, s4⟩
      case measure => simp [intOf]; omega
    · have hjl : j = xs.length := by omega
      subst hjl
      have hv2 := hv.out
      rw [List.take_length, hva.out] at hv2
      have hv3 : val L = m * 2 ^ k := by rw [hv2, ← pow_split k]; ac_rfl
      have HV := Lib.hid hv3
      have hT := Row.rd hR
      clear hv2 hv3 hra
      go_wp2_with (go_at_call 127; have hO : Own wr w.heap.size (.slice (some ⟨w.heap.size, 0, none⟩) (k / 32 + xs.length + 1) (k / 32 + xs.length + 1)) L := (by have h := hR; unfold Row at h; rw [hL.out] at h; exact h); refine (numTrim_own _ _ _ _ hO).mono ?_; rintro e w2 ⟨v, rfl, ho, rfl⟩)
      go_ret; rw [HV.out] at ho; exact ⟨v, rfl, ho, hB⟩
end
section
theorem shr_digit {x y S S2 s : Nat} (hs : s < 32) (hx : x < 4294967296) (hS : S = y + 4294967296 * S2) :
    (x + 4294967296 * S) / p2 s = (x + 4294967296 * y) / p2 s % 4294967296 + 4294967296 * (S / p2 s) := by
  have hd := p2_dvd (s := s) (by omega)
  have hP := p2_pos s
  have hP' := p2_pos (32 - s)
  generalize p2 (32 - s) = Q at *
  generalize p2 s = P at *
  have e1 : ∀ t, (x + 4294967296 * t) / P = x / P + Q * t := fun t => by
    rw [← hd, Nat.mul_assoc, Nat.add_mul_div_left _ _ hP]
  rw [e1, e1]
  have hxq : x / P < Q := by
    apply Nat.div_lt_of_lt_mul
    rw [hd]; exact hx
  have e2 : Q * S = 4294967296 * (S / P) + Q * (S % P) := by
    conv => lhs; rw [← Nat.div_add_mod S P]
    rw [Nat.mul_add, ← Nat.mul_assoc, Nat.mul_comm Q P, hd]
  have e3 : Q * S = Q * y + 4294967296 * (Q * S2) := by
    rw [hS, Nat.mul_add, ← Nat.mul_assoc, Nat.mul_comm Q 4294967296, Nat.mul_assoc]
  have hu : S % P < P := Nat.mod_lt _ hP
  have hlt : Q * (S % P) + Q ≤ 4294967296 := by
    have : Q * (S % P + 1) ≤ Q * P := Nat.mul_le_mul_left _ hu
    rw [Nat.mul_add, Nat.mul_comm Q P, hd] at this; omega
  have e4 : (x / P + Q * y) % 4294967296 = x / P + Q * (S % P) := by
    have h1 : x / P + Q * y + 4294967296 * (Q * S2) = x / P + Q * (S % P) + 4294967296 * (S / P) := (by omega)
    have h2 : (x / P + Q * y + 4294967296 * (Q * S2)) % 4294967296 = (x / P + Q * (S % P) + 4294967296 * (S / P)) % 4294967296 := by rw [h1]
    rw [Nat.add_mul_mod_self_left, Nat.add_mul_mod_self_left] at h2; rw [h2, Nat.mod_eq_of_lt (by omega)]
  rw [e4, e2]; omega
theorem shr_step {xs L : List Nat} {V q i s x y : Nat} (hs : s < 32) (hqi : q + i < xs.length) (hL : i < L.length) (hdx : Dig xs) (hdL : Dig L) (hx : xs.getD (q + i) 0 = x)
    (hy : (q + i + 1 < xs.length ∧ xs.getD (q + i + 1) 0 = y) ∨ (xs.length ≤ q + i + 1 ∧ y = 0)) (hz : ∀ j, i ≤ j → L.getD j 0 = 0)
    (h : val L + 4294967296 ^ i * (val (xs.drop (q + i)) / p2 s) = V) :
    Dig (L.set i ((x + 4294967296 * y) / p2 s % 4294967296)) ∧ (∀ j, i + 1 ≤ j → (L.set i ((x + 4294967296 * y) / p2 s % 4294967296)).getD j 0 = 0) ∧
      val (L.set i ((x + 4294967296 * y) / p2 s % 4294967296)) + 4294967296 ^ (i + 1) * (val (xs.drop (q + (i + 1))) / p2 s) = V := by
  have hx2 := dig_get hdx (q + i)
  rw [hx] at hx2
  have h1 := val_drop_cons xs (q + i) hqi
  rw [hx] at h1
  have h2 : ∃ S2, val (xs.drop (q + i + 1)) = y + 4294967296 * S2 := by
    rcases hy with ⟨hy1, hy2⟩ | ⟨hy1, rfl⟩
    · exact ⟨_, by rw [val_drop_cons xs (q + i + 1) hy1, hy2]⟩
    · exact ⟨0, by rw [List.drop_eq_nil_of_le hy1, val_nil]⟩
  obtain ⟨S2, h2⟩ := h2
  have h3 := shr_digit (x := x) (s := s) hs hx2 h2
  refine ⟨dig_set hdL _ (Nat.mod_lt _ (by omega)), fun j hj => by rw [set_getD_ne _ _ _ _ (by omega)]; exact hz j (by omega), ?_⟩
  rw [last_carry hL (hz i (Nat.le_refl _)), ← h, h1, h3, Nat.mul_add, Nat.pow_succ, Nat.mul_assoc, ← Nat.add_assoc q i 1]; omega
theorem shr_start {xs : List Nat} (hd : Dig xs) (k : Nat) : val (xs.drop (k / 32)) / p2 (k % 32) = val xs / 2 ^ k := by
  by_cases h : k / 32 ≤ xs.length
  · have h1 := val_take_drop xs (k / 32) h
    have h2 := val_lt (xs.take (k / 32)) (dig_take hd _)
    rw [List.length_take, Nat.min_eq_left h] at h2; rw [← pow_split k, ← Nat.div_div_eq_div_mul, h1, Nat.add_mul_div_left _ _ (Nat.pow_pos (by omega)), Nat.div_eq_of_lt h2, Nat.zero_add]
  · rw [List.drop_eq_nil_of_le (by omega), val_nil, Nat.zero_div, Nat.div_eq_of_lt]
    have h1 := val_lt xs hd
    rw [← pow_split k]
    have h2 : 4294967296 ^ xs.length ≤ 4294967296 ^ (k / 32) := Nat.pow_le_pow_right (by omega) (by omega)
    have h3 : 4294967296 ^ (k / 32) * 1 ≤ 4294967296 ^ (k / 32) * p2 (k % 32) := Nat.mul_le_mul_left _ (p2_pos _)
    omega
theorem shr_zero {xs : List Nat} (hd : Dig xs) {k : Nat} (h : xs.length ≤ k / 32) : val xs / 2 ^ k = 0 := by
  rw [← shr_start hd, List.drop_eq_nil_of_le h, val_nil, Nat.zero_div]
theorem shr_end {xs L : List Nat} {i k : Nat} (hd : Dig xs) (hi : k / 32 + i = xs.length) (h : val L + 4294967296 ^ i * (val (xs.drop (k / 32 + i)) / p2 (k % 32)) = val (xs.drop (k / 32)) / p2 (k % 32)) : val L = val xs / 2 ^ k := by
  rw [hi, List.drop_eq_nil_of_le (Nat.le_refl _), val_nil, Nat.zero_div, Nat.mul_zero, Nat.add_zero, shr_start hd] at h; exact h
theorem div_int {x y P : Nat} : ((x : Int) + 4294967296 * (y : Int)) / (P : Int) % 4294967296 = (((x + 4294967296 * y) / P % 4294967296 : Nat) : Int) := by
  rw [Int.natCast_emod, Int.natCast_ediv, Int.natCast_add, Int.natCast_mul]; rfl
theorem div_int0 {x P : Nat} : (x : Int) / (P : Int) % 4294967296 = (((x + 4294967296 * 0) / P % 4294967296 : Nat) : Int) := by
  rw [Nat.mul_zero, Nat.add_zero, Int.natCast_emod, Int.natCast_ediv]; rfl
theorem shr_any (w : World) (u : Value) (la : List Nat) (k : Nat) (hu : Rd w u la) (hla : la.length ≤ 1000000) (hk : k < 18446744073709551616) :
    Calls Tryz.prog 295 #[u, .int .u64 (k : Int)] w fun e w' => ∃ z, e = .returned z ∧ Own w' w.heap.size z (nf (val la / 2 ^ k)) ∧ Below w.heap.size w w' := by
  have hle := nf_val_len hu.dig
  go_enter Tryz.func295, Tryz.ntmps295; go_wp2_with fail
  refine (trim_any _ _ _ hu).mono ?_
  rintro e w1 ⟨u', rfl, hu', rfl⟩
  have hva := Lib.hid (val_nf (val la))
  generalize nf (val la) = xs at *
  obtain ⟨a, capa, rfl, _, _, hda, hra⟩ := hu'; have hx1 : xs.length ≤ 1000000 := (by omega); clear hu hle hla
  by_cases hn : xs.length ≤ k / 32
  · have HN := Lib.hid (shr_zero hda hn); have hni : (xs.length : Int) ≤ (k : Int) / 32 := (by omega); go_wp2; go_ret
    exact ⟨_, rfl, by rw [← hva.out, HN.out]; exact Own.nil _ _, Below.refl _ _⟩
  · have hk2 : k / 32 < xs.length := by omega
    have hk3 : (k : Int) / 32 < (xs.length : Int) := (by omega)
    have hs : k % 32 < 32 := Nat.mod_lt _ (by omega)
    clear hn
    go_wp2_with (at_make; go_loud (refine make_u32 _ rfl (.tmp 26) (.tmp 26) 25 rfl Tryz.underlying25 _ _ (xs.length - k / 32) rfl rfl (by omega) (by omega) (by omega) ?_); intro w1 R0 B0)
    go_loopw [30] (fun i wr => ∃ (j : Nat) (L : List Nat), j ≤ xs.length - k / 32 ∧ i = .int .i64 j ∧ Row wr w.heap.size w.heap.size (xs.length - k / 32) L ∧ Hid (L.length = xs.length - k / 32) ∧ Below w.heap.size w wr ∧
        Hid (∀ i, j ≤ i → L.getD i 0 = 0) ∧ Hid (val L + 4294967296 ^ j * (val (xs.drop (k / 32 + j)) / p2 (k % 32)) = val (xs.drop (k / 32)) / p2 (k % 32))) (fun i _ => (xs.length - k / 32) - (intOf i).toNat)
    case atStart => exact ⟨0, _, Nat.zero_le _, rfl, R0, by show _ = _; simp, B0, fun j _ => getD_replicate _ _, by show _ = _; simp [val_replicate]⟩
    case round =>
      obtain ⟨j, L, hj, rfl, hR, hL, hB, hz, hv⟩ := hrel
      have hRl := hR.lt
      have hRc := hR.cap
      by_cases hlt : j < xs.length - k / 32
      · obtain ⟨ba, offa, rfl, cA⟩ := hra.at hB (k := k / 32 + j) (by omega)
        have hx := dig_get hda (k / 32 + j)
        have hst := fun x y hx => @shr_step xs L (val (xs.drop (k / 32)) / p2 (k % 32)) (k / 32) j (k % 32) x y hs (by omega) (by rw [hL.out]; exact hlt) hda hR.dig hx
        have hst := fun y hy => hst (xs.getD (k / 32 + j) 0) y rfl hy hz.out hv.out
        generalize xs.getD (k / 32 + j) 0 = x at *
        have cR := hR.cell (j := j) (by rw [hL.out]; omega)
        have fR := hR.free j
        generalize L.getD j 0 = z at *
        have hpi := pow_int k
        have hP := p2_pos (k % 32)
        have hs1 : (k : Int) % 32 < 32 := (by omega); have hs0 : 0 ≤ (k : Int) % 32 := (by omega); have e1 : k / 32 + j = j + k / 32 := (by omega); rw [e1] at cA
        by_cases hlt2 : j + k / 32 + 1 < xs.length
        · obtain ⟨ba', offa', e2, cA2⟩ := hra.at hB hlt2
          have e3 := Option.some.inj e2
          injection e3 with e4 e5
          subst e4; subst e5
          have hy := dig_get hda (j + k / 32 + 1)
          have hst := hst (xs.getD (j + k / 32 + 1) 0) (.inl ⟨by omega, by rw [e1]⟩)
          generalize xs.getD (j + k / 32 + 1) 0 = y at *
          have hor := or_high x y hx hy
          have HST := Lib.hid hst; have hm : (j : Int) + (k : Int) / 32 + 1 < (xs.length : Int) := (by omega)
          generalize p2 (k % 32) = P at *
          clear hra hst e1 e2; go_wp2
          go_roundw
          case rel =>
            obtain ⟨s1, s2, s3⟩ := HST.out; rw [div_int]
            exact ⟨j + 1, _, by omega, by go_num, hR.set j (Nat.mod_lt _ (by omega)), by show _ = _; rw [List.length_set]; exact hL.out, hB.setCell (Nat.le_refl _) _, s2, s3⟩
          case measure => simp [intOf]; omega
        · have hst := hst 0 (.inr ⟨by omega, rfl⟩)
          have HST := Lib.hid hst; have hm : (xs.length : Int) ≤ (j : Int) + (k : Int) / 32 + 1 := (by omega)
          generalize p2 (k % 32) = P at *
          clear hra hst e1; go_wp2
          go_roundw
          case rel =>
            obtain ⟨s1, s2, s3⟩ := HST.out; rw [div_int0]
            exact ⟨j + 1, _, by omega, by go_num, hR.set j (Nat.mod_lt _ (by omega)), by show _ = _; rw [List.length_set]; exact hL.out, hB.setCell (Nat.le_refl _) _, s2, s3⟩
          case measure => simp [intOf]; omega
      · have hv2 := shr_end hda (i := j) (by omega) hv.out
        rw [hva.out] at hv2; have HV := Lib.hid hv2; clear hv2 hra
        go_wp2_with (go_at_call 191; refine (trim_row _ _ _ _ _ _ hR hL.out).mono ?_; rintro e w2 ⟨v, rfl, ho, rfl⟩)
        go_ret; rw [HV.out] at ho; exact ⟨v, rfl, ho, hB⟩
theorem right_any (w : World) (u : Value) (m : Nat) (k : Nat) (hu : Rd w u (nf m)) (hla : (nf m).length ≤ 1000000) (hk : k < 9223372036854775808) :
    Calls Tryz.prog 261 #[u, .int .i64 (k : Int)] w fun e w' => ∃ z, e = .returned z ∧ Own w' w.heap.size z (nf (m / 2 ^ k)) ∧ Below w.heap.size w w' := by
  have hva := Lib.hid (val_nf m)
  generalize nf m = xs at *
  obtain ⟨a, capa, rfl, hcap, hcm, hda, hra⟩ := hu; go_enter Tryz.func261, Tryz.ntmps261
  by_cases hn : xs.length ≤ k / 32
  · have HN := Lib.hid (shr_zero hda hn); have hni : (xs.length : Int) ≤ (k : Int) / 32 := (by omega); go_wp2; go_ret
    exact ⟨_, rfl, by rw [← hva.out, HN.out]; exact Own.nil _ _, Below.refl _ _⟩
  · have hk2 : k / 32 < xs.length := by omega
    have hk3 : (k : Int) / 32 < (xs.length : Int) := (by omega)
    have hs : k % 32 < 32 := Nat.mod_lt _ (by omega)
    have hne : ¬ capa = k / 32 := (by omega); clear hn; obtain ⟨ba, offa, rfl, hca⟩ := hra (by omega)
    have hra : Cells w (some ⟨ba, offa, none⟩) xs := fun _ => ⟨ba, offa, rfl, hca⟩
    clear hca
    go_wp2_with (at_make; go_loud (refine make_u32 _ rfl (.tmp 24) (.tmp 24) 24 rfl Tryz.underlying24 _ _ (xs.length - k / 32) rfl rfl (by omega) (by omega) (by omega) ?_); intro w1 R0 B0)
    go_loopw [28] (fun i wr => ∃ (j : Nat) (L : List Nat), j ≤ xs.length - k / 32 ∧ i = .int .i64 j ∧ Row wr w.heap.size w.heap.size (xs.length - k / 32) L ∧ Hid (L.length = xs.length - k / 32) ∧ Below w.heap.size w wr ∧
        Hid (∀ i, j ≤ i → L.getD i 0 = 0) ∧ Hid (val L + 4294967296 ^ j * (val (xs.drop (k / 32 + j)) / p2 (k % 32)) = val (xs.drop (k / 32)) / p2 (k % 32))) (fun i _ => (xs.length - k / 32) - (intOf i).toNat)
    case atStart => exact ⟨0, _, Nat.zero_le _, rfl, R0, by show _ = _; simp, B0, fun j _ => getD_replicate _ _, by show _ = _; simp [val_replicate]⟩
    case round =>
      obtain ⟨j, L, hj, rfl, hR, hL, hB, hz, hv⟩ := hrel
      have hRl := hR.lt
      have hRc := hR.cap
      by_cases hlt : j < xs.length - k / 32
      · obtain ⟨ba', offa', e0, cA⟩ := hra.at hB (k := k / 32 + j) (by omega)
        have e0 := Option.some.inj e0
        injection e0 with e4 e5
        subst e4; subst e5
        have hx := dig_get hda (k / 32 + j)
        have hst := fun x y hx => @shr_step xs L (val (xs.drop (k / 32)) / p2 (k % 32)) (k / 32) j (k % 32) x y hs (by omega) (by rw [hL.out]; exact hlt) hda hR.dig hx
        have hst := fun y hy => hst (xs.getD (k / 32 + j) 0) y rfl hy hz.out hv.out
        generalize xs.getD (k / 32 + j) 0 = x at *
        have cR := hR.cell (j := j) (by rw [hL.out]; omega)
        have fR := hR.free j
        generalize L.getD j 0 = z at *
        have hpi := pow_int k
        have hP := p2_pos (k % 32)
        have hs1 : (k : Int) % 32 < 32 := (by omega); have hs0 : 0 ≤ (k : Int) % 32 := (by omega); rw [← Nat.add_assoc] at cA
        by_cases hlt2 : k / 32 + j + 1 < xs.length
        · obtain ⟨ba', offa', e2, cA2⟩ := hra.at hB hlt2
          have e3 := Option.some.inj e2
          injection e3 with e4 e5
          subst e4; subst e5
          have hy := dig_get hda (k / 32 + j + 1)
          have hst := hst (xs.getD (k / 32 + j + 1) 0) (.inl ⟨by omega, rfl⟩)
          generalize xs.getD (k / 32 + j + 1) 0 = y at *
          rw [show offa + (k / 32 + j + 1) = offa + k / 32 + (j + 1) by omega] at cA2
          have hor := or_high x y hx hy
          have HST := Lib.hid hst; have hm : j + 1 < xs.length - k / 32 := (by omega)
          generalize p2 (k % 32) = P at *
          clear hra hst e2; go_wp2
          go_roundw
          case rel =>
            obtain ⟨s1, s2, s3⟩ := HST.out; rw [div_int]
            exact ⟨j + 1, _, by omega, by go_num, hR.set j (Nat.mod_lt _ (by omega)), by show _ = _; rw [List.length_set]; exact hL.out, hB.setCell (Nat.le_refl _) _, s2, s3⟩
          case measure => simp [intOf]; omega
        · have hst := hst 0 (.inr ⟨by omega, rfl⟩)
          have HST := Lib.hid hst; have hm : ¬ j + 1 < xs.length - k / 32 := (by omega)
          generalize p2 (k % 32) = P at *
          clear hra hst; go_wp2
          go_roundw
          case rel =>
            obtain ⟨s1, s2, s3⟩ := HST.out; rw [div_int0]
            exact ⟨j + 1, _, by omega, by go_num, hR.set j (Nat.mod_lt _ (by omega)), by show _ = _; rw [List.length_set]; exact hL.out, hB.setCell (Nat.le_refl _) _, s2, s3⟩
          case measure => simp [intOf]; omega
      · have hv2 := shr_end hda (i := j) (by omega) hv.out
        rw [hva.out] at hv2; have HV := Lib.hid hv2; clear hv2 hra
        go_wp2_with (go_at_call 127; have hO : Own wr w.heap.size (.slice (some ⟨w.heap.size, 0, none⟩) (xs.length - k / 32) (xs.length - k / 32)) L := (by have h := hR; unfold Row at h; rw [hL.out] at h; exact h); refine (numTrim_own _ _ _ _ hO).mono ?_; rintro e w2 ⟨v, rfl, ho, rfl⟩)
        go_ret; rw [HV.out] at ho; exact ⟨v, rfl, ho, hB⟩
end
section
def blen (x : Nat) : Nat := Lib.bitLen x
theorem blen_spec : ∀ (f x : Nat), x < 2 ^ f → Lib.bitLenAux f x ≤ f ∧ x < 2 ^ Lib.bitLenAux f x ∧ (x ≠ 0 → 0 < Lib.bitLenAux f x ∧ 2 ^ (Lib.bitLenAux f x - 1) ≤ x)
  | 0, x, h => by
    have : x = 0 := by simpa using h
    subst this
    exact ⟨Nat.le_refl _, by decide, fun h => absurd rfl h⟩
  | f + 1, x, h => by
    unfold Lib.bitLenAux
    by_cases h0 : x = 0
    · rw [if_pos h0]; subst h0
      exact ⟨by omega, by decide, fun h => absurd rfl h⟩
    · rw [if_neg h0]; rw [Nat.pow_succ] at h; obtain ⟨h1, h2, h3⟩ := blen_spec f (x / 2) (by omega)
      have hz : x / 2 = 0 → Lib.bitLenAux f (x / 2) = 0 := fun e => by
        rw [e]; cases f <;> simp [Lib.bitLenAux]
      generalize Lib.bitLenAux f (x / 2) = b at *
      refine ⟨by omega, ?_, fun _ => ⟨by omega, ?_⟩⟩
      · rw [Nat.add_comm 1 b, Nat.pow_succ]; omega
      · rw [Nat.add_sub_cancel_left]
        by_cases hx : x / 2 = 0
        · have hb : b = 0 := hz hx
          rw [hb]; simp; omega
        · obtain ⟨h4, h5⟩ := h3 hx
          obtain ⟨c, rfl⟩ : ∃ c, b = c + 1 := ⟨b - 1, by omega⟩
          rw [Nat.add_sub_cancel] at h5
          rw [Nat.pow_succ]; omega
theorem blen_lt {x : Nat} (h : x < 18446744073709551616) : x < 2 ^ blen x := (blen_spec 64 x (by simpa using h)).2.1
theorem blen_ge {x : Nat} (h : x < 18446744073709551616) (h0 : x ≠ 0) : 0 < blen x ∧ 2 ^ (blen x - 1) ≤ x := (blen_spec 64 x (by simpa using h)).2.2 h0
theorem blen_le32 {x : Nat} (h : x < 4294967296) : blen x ≤ 32 := Lib.bitLen_le x 32 (by omega) (by simpa using h)
theorem len32_int (w : World) (x : Int) (h0 : 0 ≤ x) (h1 : x ≤ 4294967295) :
    Calls Tryz.prog 257 #[.int .u32 x] w fun e w' => e = .returned (.int .i64 (Lib.bitLen x.toNat)) ∧ w = w' := by
  by_cases c1 : x < 65536
  · by_cases c2 : x < 256
    · have d1 : x ≤ 255 := by omega
      have e := Lib.len8_of x h0 d1
      have l := Lib.bitLen_le8' x h0 d1
      have b0 : 0 ≤ Lib.len8 x := (by omega); have b1 : Lib.len8 x ≤ 8 := (by omega); have E := Lib.hid e; clear e l; go_enter Tryz.func257, Tryz.ntmps257; go_wp2; go_ret
      exact ⟨by rw [← E.out]; rfl, rfl⟩
    · have d0 : 0 ≤ x / 256 := by omega
      have d1 : x / 256 ≤ 255 := (by omega)
      have e := Lib.len8_of _ d0 d1
      have l := Lib.bitLen_le8' _ d0 d1
      have s := Lib.bitLen_shift8 x.toNat (by omega) (by omega)
      have t : (x / 256).toNat = x.toNat / 256 := (by omega); rw [t] at e l; have b0 : 0 ≤ Lib.len8 (x / 256) := (by omega); have b1 : Lib.len8 (x / 256) ≤ 8 := (by omega); have f : (Lib.bitLen x.toNat : Int) = 8 + Lib.len8 (x / 256) := (by omega); have E := Lib.hid f; clear e l s t f; go_enter Tryz.func257, Tryz.ntmps257; go_wp2; go_ret
      exact ⟨by rw [E.out]; rfl, rfl⟩
  · by_cases c2 : x / 65536 < 256
    · have d0 : 0 ≤ x / 65536 := by omega
      have d1 : x / 65536 ≤ 255 := (by omega)
      have e := Lib.len8_of _ d0 d1
      have l := Lib.bitLen_le8' _ d0 d1
      have s := Lib.bitLen_shift16 x.toNat (by omega) (by omega)
      have t : (x / 65536).toNat = x.toNat / 65536 := (by omega); rw [t] at e l; have b0 : 0 ≤ Lib.len8 (x / 65536) := (by omega); have b1 : Lib.len8 (x / 65536) ≤ 8 := (by omega); have f : (Lib.bitLen x.toNat : Int) = 16 + Lib.len8 (x / 65536) := (by omega); have E := Lib.hid f; clear e l s t f; go_enter Tryz.func257, Tryz.ntmps257; go_wp2; go_ret
      exact ⟨by rw [E.out]; rfl, rfl⟩
    · have d0 : 0 ≤ x / 65536 / 256 := by omega
      have d1 : x / 65536 / 256 ≤ 255 := (by omega)
      have e := Lib.len8_of _ d0 d1
      have l := Lib.bitLen_le8' _ d0 d1
      have s := Lib.bitLen_shift24 x.toNat (by omega) (by omega)
      have t : (x / 65536 / 256).toNat = x.toNat / 16777216 := (by omega); rw [t] at e l; have b0 : 0 ≤ Lib.len8 (x / 65536 / 256) := (by omega); have b1 : Lib.len8 (x / 65536 / 256) ≤ 8 := (by omega); have f : (Lib.bitLen x.toNat : Int) = 24 + Lib.len8 (x / 65536 / 256) := (by omega); have E := Lib.hid f; clear e l s t f; go_enter Tryz.func257, Tryz.ntmps257; go_wp2; go_ret
      exact ⟨by rw [E.out]; rfl, rfl⟩
theorem len32_any (w : World) (x : Nat) (h : x < 4294967296) :
    Calls Tryz.prog 257 #[.int .u32 (x : Int)] w fun e w' => e = .returned (.int .i64 ((blen x : Nat) : Int)) ∧ w = w' :=
  len32_int w x (by omega) (by omega)
theorem lz32_any (w : World) (x : Nat) (h : x < 4294967296) :
    Calls Tryz.prog 192 #[.int .u32 (x : Int)] w fun e w' => e = .returned (.int .i64 (32 - (blen x : Int))) ∧ w = w' := by
  have hb := blen_le32 h
  go_enter Tryz.func192, Tryz.ntmps192; go_wp2_with fail
  refine (len32_any _ _ h).mono ?_
  rintro e w1 ⟨rfl, rfl⟩
  go_wp2; go_ret; exact ⟨rfl, rfl⟩
def nbits (n : Nat) : Nat := if n = 0 then 0 else 32 * ((nf n).length - 1) + blen ((nf n).getD ((nf n).length - 1) 0)
theorem nbits_zero : nbits 0 = 0 := rfl
theorem nbits_pos {n : Nat} (h : n ≠ 0) : nbits n = 32 * ((nf n).length - 1) + blen ((nf n).getD ((nf n).length - 1) 0) := by unfold nbits; rw [if_neg h]
theorem natBits_any (w : World) (v : Value) (l : List Nat) (h : Rd w v l) (hl : l.length ≤ 1000000) :
    Calls Tryz.prog 133 #[v] w fun e w' => e = .returned (.int .i64 ((nbits (val l) : Nat) : Int)) ∧ w = w' := by
  have hle := nf_val_len h.dig
  go_enter Tryz.func133, Tryz.ntmps133; go_wp2_with fail
  refine (trim_any _ _ _ h).mono ?_
  rintro e w1 ⟨v', rfl, h', rfl⟩
  obtain ⟨a, cap, rfl, hc, hcm, hd, hr⟩ := h'
  by_cases hn : val l = 0
  · have HN := Lib.hid (show nbits (val l) = 0 by rw [hn]; rfl)
    have h0 : (nf (val l)).length = 0 := by rw [hn]; rfl
    have hb : (((nf (val l)).length : Int) == 0) = true := by rw [h0]; rfl
    clear hn hd hr hc hle
    generalize (nf (val l)).length = n at *
    subst h0; go_wp2; go_ret
    exact ⟨by rw [HN.out]; rfl, rfl⟩
  · have HN := Lib.hid (nbits_pos hn)
    have hp := nf_len_pos hn
    obtain ⟨b, off, rfl, hcell⟩ := hr hp
    have hb : (((nf (val l)).length : Int) == 0) = false := by rw [beq_eq_false_iff_ne]; omega
    have c0 := hcell ((nf (val l)).length - 1) (by omega)
    have hx := dig_get hd ((nf (val l)).length - 1)
    generalize (nf (val l)).getD ((nf (val l)).length - 1) 0 = x at *
    generalize (nf (val l)).length = n at *
    have hbl := blen_le32 hx
    clear hn hd hr hcell
    go_wp2_with (go_at_call 192; refine (lz32_any _ _ hx).mono ?_; rintro e w' ⟨rfl, rfl⟩)
    go_ret
    refine ⟨?_, rfl⟩
    rw [HN.out]; have e : (32 * (n : Int) - (32 - (blen x : Int))) = ((32 * (n - 1) + blen x : Nat) : Int) := (by omega); exact congrArg (fun i => Ending.returned (.int .i64 i)) e
def normalB (l : List Nat) : Bool := decide (l.length = 0) || decide (l.getD (l.length - 1) 0 ≠ 0)
theorem normalB_nil {l : List Nat} (h : l.length = 0) : normalB l = true := by simp [normalB, h]
theorem normalB_ne {l : List Nat} (h : l.getD (l.length - 1) 0 ≠ 0) : normalB l = true := by simp only [normalB, h, decide_true, Bool.or_true, ne_eq, not_false_eq_true]
theorem normalB_eq {l : List Nat} (h : 0 < l.length) (h0 : l.getD (l.length - 1) 0 = 0) : normalB l = false := by
  simp only [normalB, h0, ne_eq, not_true_eq_false, decide_false, Bool.or_false, decide_eq_false_iff_not]; omega
theorem normal_any (w : World) (v : Value) (l : List Nat) (h : Rd w v l) :
    Calls Tryz.prog 263 #[v] w fun e w' => e = .returned (.bool (normalB l)) ∧ w = w' := by
  obtain ⟨a, cap, rfl, hc, hcm, hd, hr⟩ := h
  by_cases h0 : l.length = 0
  · have HN := Lib.hid (normalB_nil h0)
    generalize l.length = n at *
    subst h0; go_enter Tryz.func263, Tryz.ntmps263; go_wp2; go_ret
    exact ⟨by rw [HN.out]; rfl, rfl⟩
  · obtain ⟨b, off, rfl, hcell⟩ := hr (by omega)
    have hb : ((l.length : Int) == 0) = false := by rw [beq_eq_false_iff_ne]; omega
    have c0 := hcell (l.length - 1) (by omega)
    have hp : 0 < l.length := (by omega)
    have hx := dig_get hd (l.length - 1)
    have h1 := @normalB_ne l
    have h2 := @normalB_eq l hp
    generalize l.getD (l.length - 1) 0 = x at *
    clear hcell hr
    by_cases hz : x = 0
    · have HN := Lib.hid (h2 hz)
      have hz' : ((x : Int) != 0) = false := by subst hz; rfl
      clear h1 h2 hz; go_enter Tryz.func263, Tryz.ntmps263; go_wp2; go_ret
      exact ⟨by rw [HN.out]; rfl, rfl⟩
    · have HN := Lib.hid (h1 hz)
      have hz' : ((x : Int) != 0) = true := by rw [bne_iff_ne]; omega
      clear h1 h2 hz; go_enter Tryz.func263, Tryz.ntmps263; go_wp2; go_ret
      exact ⟨by rw [HN.out]; rfl, rfl⟩
end
section
theorem sub_step {la lb L : List Nat} {c k d c' x y : Nat} (hL : L.length = la.length) (hz : ∀ j, k ≤ j → L.getD j 0 = 0) (hk : k < la.length) (hx : la.getD k 0 = x)
    (h : val L + val (lb.take k) = val (la.take k) + 4294967296 ^ k * c) (hy : (k < lb.length ∧ lb.getD k 0 = y) ∨ (lb.length ≤ k ∧ y = 0)) (hd : d + y + c = x + 4294967296 * c') :
    (∀ j, k + 1 ≤ j → (L.set k d).getD j 0 = 0) ∧ val (L.set k d) + val (lb.take (k + 1)) = val (la.take (k + 1)) + 4294967296 ^ (k + 1) * c' := by
  have hb : val (lb.take (k + 1)) = val (lb.take k) + 4294967296 ^ k * y := by
    rcases hy with ⟨hy, rfl⟩ | ⟨hy, rfl⟩
    · exact val_take_snoc lb k hy
    · rw [List.take_of_length_le (by omega), List.take_of_length_le hy]; simp
  have h2 := borrow_round (L := L) (A := val (la.take k)) (C := val (lb.take k)) (j := k) (c := c) (c' := c') (d := d) (x := x) (y := y) (by omega) (hz k (Nat.le_refl _)) h hd
  refine ⟨fun j hj => ?_, ?_⟩
  · rw [set_getD_ne _ _ _ _ (by omega)]; exact hz j (by omega)
  · rw [hb, val_take_snoc la k hk, hx, h2]
theorem sub_end {la lb L : List Nat} {c : Nat} (hdL : Dig L) (hL : L.length = la.length) (hlen : lb.length ≤ la.length) (hle : val lb ≤ val la)
    (h : val L + val (lb.take la.length) = val (la.take la.length) + 4294967296 ^ la.length * c) : val L = val la - val lb := by
  rw [List.take_length, List.take_of_length_le hlen] at h
  have h1 := val_lt L hdL
  rw [hL] at h1
  rcases Nat.eq_zero_or_pos c with h0 | h0
  · subst h0; omega
  · exfalso
    have : 4294967296 ^ la.length * 1 ≤ 4294967296 ^ la.length * c := Nat.mul_le_mul_left _ h0
    omega
theorem wrap_neg (z : Int) (h1 : -18446744073709551616 ≤ z) (h2 : z < 0) : IntKind.u64.wrap z = z + 18446744073709551616 := by
  rw [IntKind.wrap_u64]; omega
theorem less_raw (w : World) (a b : Option Addr) (capa capb : Nat) (la lb : List Nat) (hlen : lb.length ≤ la.length) (hle : val lb ≤ val la) (hla : la.length ≤ 1000000)
    (hda : Dig la) (hdb : Dig lb) (hra : Cells w a la) (hrb : Cells w b lb) :
    Calls Tryz.prog 292 #[.slice a la.length capa, .slice b lb.length capb] w fun e w' => ∃ v, e = .returned v ∧ Own w' w.heap.size v (nf (val la - val lb)) ∧ Below w.heap.size w w' := by
  have HLE := Lib.hid hle; clear hle; go_enter Tryz.func292, Tryz.ntmps292
  go_wp2_with (at_make; go_loud (refine make_u32 _ rfl (.tmp 12) (.tmp 12) 25 rfl Tryz.underlying25 _ _ la.length rfl rfl (by omega) (by omega) (by omega) ?_); intro w1 R0 B0)
  go_loopw [6, 16] (fun c i wr => ∃ (k cn : Nat) (L : List Nat), k ≤ la.length ∧ i = .int .i64 k ∧ c = .int .u64 cn ∧ cn ≤ 1 ∧ Row wr w.heap.size w.heap.size la.length L ∧ Hid (L.length = la.length) ∧ Below w.heap.size w wr ∧
      Hid (∀ j, k ≤ j → L.getD j 0 = 0) ∧ Hid (val L + val (lb.take k) = val (la.take k) + 4294967296 ^ k * cn)) (fun _ i _ => la.length - (intOf i).toNat)
  case atStart => exact ⟨0, 0, _, Nat.zero_le _, rfl, rfl, by omega, R0, by show _ = _; simp, B0, fun j _ => getD_replicate _ _, by show _ = _; simp [val_replicate, val_nil]⟩
  case round =>
    obtain ⟨k, cn, L, hk, rfl, rfl, hcn, hR, hL, hB, hz, hv⟩ := hrel
    have hRc := hR.cap
    have hRl := hR.lt
    by_cases hlt : k < la.length
    · obtain ⟨ba, offa, rfl, cA⟩ := hra.at hB hlt
      have hst := fun x y d c' => @sub_step la lb L cn k d c' x y hL.out hz.out hlt
      have cR := hR.cell (j := k) (by rw [hL.out]; omega)
      have fR := hR.free k
      have hx := dig_get hda k
      generalize hgx : la.getD k 0 = x at *
      have hst := fun y d c' => hst x y d c' rfl hv.out
      clear hgx
      generalize L.getD k 0 = z at *
      by_cases hltb : k < lb.length
      · obtain ⟨bb, offb, rfl, cB⟩ := hrb.at hB hltb
        have hy := dig_get hdb k
        generalize hgy : lb.getD k 0 = y at *
        have hst := fun d c' => hst y d c' (.inl ⟨hltb, rfl⟩)
        clear hgy
        by_cases hge : cn + y ≤ x
        · have HST := Lib.hid (hst (x - y - cn) 0 (by omega)); clear hst hra hrb; go_wp2
          go_roundw
          case rel =>
            obtain ⟨s1, s2⟩ := HST.out
            rw [show ((x : Int) - ((cn : Int) + (y : Int))) = ((x - y - cn : Nat) : Int) by omega]
            exact ⟨k + 1, 0, _, by omega, by go_num, by go_num, by omega, hR.set k (by omega), by show _ = _; rw [List.length_set]; exact hL.out, hB.setCell (Nat.le_refl _) _, s1, s2⟩
          case measure => simp [intOf]; omega
        · have HST := Lib.hid (hst (x + 4294967296 - y - cn) 1 (by omega)); clear hst hra hrb; go_wp2
          go_roundw
          case rel =>
            obtain ⟨s1, s2⟩ := HST.out
            rw [wrap_neg _ (by omega) (by omega), show (((x : Int) - ((cn : Int) + (y : Int))) + 18446744073709551616) % 4294967296 = ((x + 4294967296 - y - cn : Nat) : Int) by omega]
            exact ⟨k + 1, 1, _, by omega, by go_num, by go_num, by omega, hR.set k (by omega), by show _ = _; rw [List.length_set]; exact hL.out, hB.setCell (Nat.le_refl _) _, s1, s2⟩
          case measure => simp [intOf]; omega
      · have hst := fun d c' => hst 0 d c' (.inr ⟨by omega, rfl⟩)
        by_cases hge : cn ≤ x
        · have HST := Lib.hid (hst (x - 0 - cn) 0 (by omega)); clear hst hra hrb; go_wp2
          go_roundw
          case rel =>
            obtain ⟨s1, s2⟩ := HST.out
            rw [show ((x : Int) - (cn : Int)) = ((x - 0 - cn : Nat) : Int) by omega]
            exact ⟨k + 1, 0, _, by omega, by go_num, by go_num, by omega, hR.set k (by omega), by show _ = _; rw [List.length_set]; exact hL.out, hB.setCell (Nat.le_refl _) _, s1, s2⟩
          case measure => simp [intOf]; omega
        · have HST := Lib.hid (hst (x + 4294967296 - 0 - cn) 1 (by omega)); clear hst hra hrb; go_wp2
          go_roundw
          case rel =>
            obtain ⟨s1, s2⟩ := HST.out
            rw [wrap_neg _ (by omega) (by omega), show (((x : Int) - (cn : Int)) + 18446744073709551616) % 4294967296 = ((x + 4294967296 - 0 - cn : Nat) : Int) by omega]
            exact ⟨k + 1, 1, _, by omega, by go_num, by go_num, by omega, hR.set k (by omega), by show _ = _; rw [List.length_set]; exact hL.out, hB.setCell (Nat.le_refl _) _, s1, s2⟩
          case measure => simp [intOf]; omega
    · have hkl : k = la.length := by omega
      subst hkl; have HV := Lib.hid (sub_end hR.dig hL.out hlen HLE.out hv.out); clear hra hrb
      go_wp2_with (go_at_call 191; refine (trim_row _ _ _ _ _ _ hR hL.out).mono ?_; rintro e w2 ⟨v, rfl, ho, rfl⟩)
      go_ret; rw [HV.out] at ho; exact ⟨v, rfl, ho, hB⟩
def SubPost (w : World) (m n : Nat) (e : Ending) (w' : World) : Prop :=
  ∃ z, e = .returned (.tuple #[z, .bool (decide (n ≤ m))]) ∧ Own w' w.heap.size z (nf (m - n)) ∧ Below w.heap.size w w'
theorem sub_any (w : World) (u v : Value) (la lb : List Nat) (hu : Rd w u la) (hv : Rd w v lb) (hla : la.length ≤ 1000000) :
    Calls Tryz.prog 273 #[u, v] w (SubPost w (val la) (val lb)) := by
  have hle := nf_val_len hu.dig
  go_enter Tryz.func273, Tryz.ntmps273; go_wp2_with fail
  refine (natCmp_any _ _ _ _ _ hu hv).mono ?_
  rintro e w1 ⟨rfl, hb1⟩
  by_cases hlt : val la < val lb
  · rw [cmpN_lt hlt]; have HD := Lib.hid (decide_eq_false (show ¬ val lb ≤ val la by omega)); have HZ := Lib.hid (show val la - val lb = 0 by omega); clear hlt; go_wp2; go_ret2
    exact ⟨_, by rw [HD.out]; rfl, by rw [HZ.out]; exact Own.nil _ _, hb1⟩
  · have hge : 0 ≤ cmpN (val la) (val lb) := by unfold cmpN; rw [if_neg hlt]; split <;> omega
    have HD := Lib.hid (decide_eq_true (show val lb ≤ val la by omega))
    generalize cmpN (val la) (val lb) = c at *
    go_wp2_with fail
    refine (trim_any _ _ _ (hu.keep hb1)).mono ?_
    rintro e w2 ⟨u', rfl, hu', rfl⟩
    go_wp2_with fail
    refine (trim_any _ _ _ (hv.keep hb1)).mono ?_
    rintro e w2 ⟨v', rfl, hv', rfl⟩
    go_wp2_with fail; obtain ⟨a, capa, rfl, _, _, hda, hra⟩ := hu'; obtain ⟨b, capb, rfl, _, _, hdb, hrb⟩ := hv'
    refine (less_raw w1 a b capa capb _ _ (nf_len_mono (by omega)) (by rw [val_nf, val_nf]; omega) (by omega) hda hdb hra hrb).mono ?_
    rintro e w3 ⟨z, rfl, hz, hb3⟩
    rw [val_nf, val_nf] at hz; go_wp2; go_ret2
    exact ⟨_, by rw [HD.out]; rfl, hz.mono hb1.size, hb1.trans (hb3.mono hb1.size)⟩
end
section
theorem mul_int {x y : Nat} (hx : x < 4294967296) (hy : y < 4294967296) : (0 : Int) ≤ (x : Int) * (y : Int) ∧ (x : Int) * (y : Int) ≤ 18446744065119617025 := by
  have h : x * y ≤ 4294967295 * 4294967295 := Nat.mul_le_mul (by omega) (by omega)
  rw [← Int.natCast_mul]; omega
theorem mul_step {L : List Nat} {V i k c x y T m : Nat} (hi : i + m ≤ L.length) (hk : k < m) (hdL : Dig L) (hx : x < 4294967296) (hy : y < 4294967296) (hc : c < 4294967296)
    (hz : ∀ j, i + m ≤ j → L.getD j 0 = 0) (z : Nat) (hgz : L.getD (i + k) 0 = z) (h : val L + 4294967296 ^ (i + k) * c = V + 4294967296 ^ i * (x * T)) :
    Dig (L.set (i + k) ((c + x * y + z) % 4294967296)) ∧ (c + x * y + z) / 4294967296 < 4294967296 ∧ (∀ j, i + m ≤ j → (L.set (i + k) ((c + x * y + z) % 4294967296)).getD j 0 = 0) ∧
      val (L.set (i + k) ((c + x * y + z) % 4294967296)) + 4294967296 ^ (i + (k + 1)) * ((c + x * y + z) / 4294967296) = V + 4294967296 ^ i * (x * (T + 4294967296 ^ k * y)) := by
  subst hgz
  have hz' := dig_get hdL (i + k)
  have hb := mul_bound hx hy hc hz'
  exact ⟨dig_set hdL _ (by omega), by omega, fun j hj => by rw [set_getD_ne _ _ _ _ (by omega)]; exact hz j hj, mul_round (by omega) h⟩
theorem mul_last {L : List Nat} {A b i m c x : Nat} (hL : i + m < L.length) (hz : ∀ j, i + m ≤ j → L.getD j 0 = 0)
    (h : val L + 4294967296 ^ (i + m) * c = A * b + 4294967296 ^ i * (x * b)) :
    (∀ j, i + 1 + m ≤ j → (L.set (i + m) c).getD j 0 = 0) ∧ val (L.set (i + m) c) = (A + 4294967296 ^ i * x) * b := by
  refine ⟨fun j hj => by rw [set_getD_ne _ _ _ _ (by omega)]; exact hz j (by omega), ?_⟩
  rw [last_carry hL (hz _ (Nat.le_refl _)), h, mul_outer rfl]
theorem mul_any (w : World) (u v : Value) (la lb : List Nat) (hu : Rd w u la) (hv : Rd w v lb) (hla : la.length ≤ 1000000) (hlb : lb.length ≤ 1000000) :
    Calls Tryz.prog 212 #[u, v] w fun e w' => ∃ z, e = .returned z ∧ Own w' w.heap.size z (nf (val la * val lb)) ∧ Below w.heap.size w w' := by
  have hle1 := nf_val_len hu.dig
  have hle2 := nf_val_len hv.dig
  go_enter Tryz.func212, Tryz.ntmps212; go_wp2_with fail
  refine (trim_any _ _ _ hu).mono ?_
  rintro e w1 ⟨u', rfl, hu', rfl⟩
  go_wp2_with fail
  refine (trim_any _ _ _ hv).mono ?_
  rintro e w1 ⟨v', rfl, hv', rfl⟩
  have hva := Lib.hid (val_nf (val la)); have hvb := Lib.hid (val_nf (val lb))
  generalize nf (val la) = xs at *
  generalize nf (val lb) = ys at *
  obtain ⟨a, capa, rfl, _, _, hda, hra⟩ := hu'; obtain ⟨b, capb, rfl, _, _, hdb, hrb⟩ := hv'; have hx1 : xs.length ≤ 1000000 := (by omega); have hy1 : ys.length ≤ 1000000 := (by omega); clear hu hv hle1 hle2 hla hlb
  go_wp2_with (at_make; go_loud (refine make_u32 _ rfl (.tmp 19) (.tmp 19) 25 rfl Tryz.underlying25 _ _ (xs.length + ys.length) rfl rfl (by omega) (by omega) (by omega) ?_); intro w1 R0 B0)
  go_loopw [23] (fun i wr => ∃ (k : Nat) (L : List Nat), k ≤ xs.length ∧ i = .int .i64 k ∧ Row wr w.heap.size w.heap.size (xs.length + ys.length) L ∧ Hid (L.length = xs.length + ys.length) ∧ Below w.heap.size w wr ∧
      Hid (∀ j, k + ys.length ≤ j → L.getD j 0 = 0) ∧ Hid (val L = val (xs.take k) * val ys)) (fun i _ => xs.length - (intOf i).toNat)
  case atStart => exact ⟨0, _, Nat.zero_le _, rfl, R0, by show _ = _; simp, B0, fun j _ => getD_replicate _ _, by show _ = _; simp [val_replicate, val_nil]⟩
  case round =>
    obtain ⟨i, L0, hi, rfl, hR0, hL0, hB0, hz0, hv0⟩ := hrel; obtain ⟨wo, hwo⟩ : ∃ wo : World, wo = wr := ⟨_, rfl⟩; subst hwo
    by_cases hlt : i < xs.length
    · obtain ⟨ba, offa, rfl, cA⟩ := hra.at hB0 hlt
      have hx := dig_get hda i
      have HX := Lib.hid (val_take_snoc xs i hlt)
      generalize xs.getD i 0 = x at *
      have hrow0 := hR0.lt
      go_wp2
      go_loopw [8, 30] (fun c i' wr => ∃ (k cn : Nat) (L : List Nat), k ≤ ys.length ∧ i' = .int .i64 k ∧ c = .int .u64 cn ∧ cn < 4294967296 ∧ Row wr w.heap.size w.heap.size (xs.length + ys.length) L ∧ Hid (L.length = xs.length + ys.length) ∧ Below w.heap.size w wr ∧
          Hid (∀ j, i + ys.length ≤ j → L.getD j 0 = 0) ∧ Hid (val L + 4294967296 ^ (i + k) * cn = val (xs.take i) * val ys + 4294967296 ^ i * (x * val (ys.take k)))) (fun _ i' _ => ys.length - (intOf i').toNat)
      case atStart => exact ⟨0, 0, L0, Nat.zero_le _, rfl, rfl, by omega, hR0, hL0, hB0, hz0, by show _ = _; rw [hv0.out]; simp [val_nil]⟩
      case round =>
        obtain ⟨k, cn, L, hk, rfl, rfl, hcn, hR, hL, hB, hz, hv⟩ := hrel
        have hRl := hR.lt
        have hRc := hR.cap
        by_cases hltb : k < ys.length
        · obtain ⟨bb, offb, rfl, cB⟩ := hrb.at hB hltb
          have hy := dig_get hdb k
          have hst := fun y => @mul_step L (val (xs.take i) * val ys) i k cn x y (val (ys.take k)) ys.length (by rw [hL.out]; omega) hltb hR.dig hx
          have hvt := val_take_snoc ys k hltb
          generalize ys.getD k 0 = y at *
          have cR := hR.cell (j := i + k) (by rw [hL.out]; omega)
          have fR := hR.free (i + k)
          have hdz := dig_get hR.dig (i + k)
          have hst := hst y hy hcn hz.out (L.getD (i + k) 0) rfl hv.out
          generalize L.getD (i + k) 0 = z at *
          rw [← hvt] at hst; have HST := Lib.hid hst
          have hm := mul_int hx hy
          clear hst hvt hra hrb; go_wp2
          go_roundw
          case rel =>
            obtain ⟨s1, s2, s3, s4⟩ := HST.out
            have e0 : (cn : Int) + ((x : Int) * (y : Int) + (z : Int)) = ((cn + x * y + z : Nat) : Int) := by
              rw [Int.natCast_add, Int.natCast_add, Int.natCast_mul]; omega
            rw [e0]; have e1 : ((cn + x * y + z : Nat) : Int) % 4294967296 = (((cn + x * y + z) % 4294967296 : Nat) : Int) := (by omega); rw [e1]
            exact ⟨k + 1, (cn + x * y + z) / 4294967296, _, by omega, by go_num, by go_num, s2, hR.set (i + k) (by omega), by show _ = _; rw [List.length_set]; exact hL.out, hB.setCell (Nat.le_refl _) _, s3, s4⟩
          case measure => simp [intOf]; omega
        · have hkl : k = ys.length := by omega
          subst hkl
          have cR := hR.cell (j := i + ys.length) (by rw [hL.out]; omega)
          have fR := hR.free (i + ys.length)
          generalize L.getD (i + ys.length) 0 = z at *
          have hv2 := hv.out
          rw [List.take_length] at hv2
          have hst := mul_last (by rw [hL.out]; omega) hz.out hv2
          rw [← HX.out] at hst; have HST := Lib.hid hst; clear hst hv2 hra hrb; go_wp2
          go_roundw
          case rel =>
            obtain ⟨s1, s2⟩ := HST.out
            exact ⟨i + 1, _, by omega, by go_num, hR.set (i + ys.length) hcn, by show _ = _; rw [List.length_set]; exact hL.out, hB.setCell (Nat.le_refl _) _, s1, s2⟩
          case measure => simp [intOf]; omega
    · have hil : i = xs.length := by omega
      subst hil
      have hv2 := hv0.out
      rw [List.take_length] at hv2; have HV := Lib.hid hv2; clear hv2 hra hrb
      go_wp2_with (go_at_call 191; refine (trim_row _ _ _ _ _ _ hR0 hL0.out).mono ?_; rintro e w2 ⟨v, rfl, ho, rfl⟩)
      go_ret; rw [HV.out, hva.out, hvb.out] at ho; exact ⟨v, rfl, ho, hB0⟩
end
section
theorem short_step {la L : List Nat} {d r x j : Nat} (hj : j < la.length) (hL : L.length = la.length) (hx : la.getD j 0 = x) (hd : 0 < d) (hr : r < d) (hdL : Dig L) (hda : Dig la)
    (hz : ∀ i, i < j + 1 → L.getD i 0 = 0) (h : 4294967296 ^ (j + 1) * val (la.drop (j + 1)) = val L * d + 4294967296 ^ (j + 1) * r) :
    (x + 4294967296 * r) / d < 4294967296 ∧ (x + 4294967296 * r) % d < d ∧ Dig (L.set j ((x + 4294967296 * r) / d)) ∧ (∀ i, i < j → (L.set j ((x + 4294967296 * r) / d)).getD i 0 = 0) ∧
      4294967296 ^ j * val (la.drop j) = val (L.set j ((x + 4294967296 * r) / d)) * d + 4294967296 ^ j * ((x + 4294967296 * r) % d) := by
  have hx2 := dig_get hda j
  rw [hx] at hx2
  have hq : (r * 4294967296 + x) / d < 4294967296 := short_digit hr hx2
  have e : r * 4294967296 + x = x + 4294967296 * r := (by omega)
  have h1 := short_round (L := L) (A := 4294967296 ^ (j + 1) * val (la.drop (j + 1))) (r := r) (x := x) (d := d) (j := j) (by omega) (hz j (by omega)) h
  rw [e] at hq h1
  refine ⟨hq, Nat.mod_lt _ hd, dig_set hdL _ hq, fun i hi => by rw [set_getD_ne _ _ _ _ (by omega)]; exact hz i (by omega), ?_⟩
  rw [val_drop_cons la j hj, hx, ← h1, Nat.mul_add, Nat.pow_succ, Nat.mul_assoc]; omega
theorem short_end {la L : List Nat} {d r : Nat} (hr : r < d) (h : 4294967296 ^ 0 * val (la.drop 0) = val L * d + 4294967296 ^ 0 * r) : val L = val la / d ∧ r = val la % d := by
  rw [Nat.pow_zero, Nat.one_mul, Nat.one_mul, List.drop_zero] at h; rw [h]; constructor
  · rw [Nat.mul_comm, Nat.mul_add_div (by omega), Nat.div_eq_of_lt hr]; rfl
  · rw [Nat.mul_comm, Nat.mul_add_mod, Nat.mod_eq_of_lt hr]
def ShortPost (w : World) (m d : Nat) (e : Ending) (w' : World) : Prop :=
  ∃ z, e = .returned (.tuple #[z, .int .u32 ((m % d : Nat) : Int)]) ∧ Own w' w.heap.size z (nf (m / d)) ∧ Below w.heap.size w w'
theorem short_any (w : World) (u : Value) (la : List Nat) (d : Nat) (hu : Rd w u la) (hla : la.length ≤ 1000000) (hd : 0 < d) (hdl : d < 4294967296) :
    Calls Tryz.prog 258 #[u, .int .u32 (d : Int)] w (ShortPost w (val la) d) := by
  obtain ⟨a, capa, rfl, _, _, hda, hra⟩ := hu; go_enter Tryz.func258, Tryz.ntmps258
  go_wp2_with (at_make; go_loud (refine make_u32 _ rfl (.tmp 11) (.tmp 11) 25 rfl Tryz.underlying25 _ _ la.length rfl rfl (by omega) (by omega) (by omega) ?_); intro w1 R0 B0)
  go_loopw [7, 8] (fun c i wr => ∃ (k r : Nat) (L : List Nat), k ≤ la.length ∧ i = .int .i64 ((k : Int) - 1) ∧ c = .int .u64 r ∧ r < d ∧ Row wr w.heap.size w.heap.size la.length L ∧ Hid (L.length = la.length) ∧ Below w.heap.size w wr ∧
      Hid (∀ j, j < k → L.getD j 0 = 0) ∧ Hid (4294967296 ^ k * val (la.drop k) = val L * d + 4294967296 ^ k * r)) (fun _ i _ => (intOf i + 1).toNat)
  case atStart => exact ⟨la.length, 0, _, Nat.le_refl _, rfl, rfl, hd, R0, by show _ = _; simp, B0, fun j _ => getD_replicate _ _, by show _ = _; simp [val_replicate, val_nil]⟩
  case round =>
    obtain ⟨k, r, L, hk, rfl, rfl, hr, hR, hL, hB, hz, hv⟩ := hrel
    have hRl := hR.lt
    have hRc := hR.cap
    by_cases hk1 : 1 ≤ k
    · obtain ⟨j, rfl⟩ : ∃ j, k = j + 1 := ⟨k - 1, by omega⟩
      obtain ⟨ba, offa, rfl, cA⟩ := hra.at hB (k := j) (by omega)
      have hx := dig_get hda j
      have hst := fun x hx => @short_step la L d r x j (by omega) hL.out hx hd hr hR.dig hda hz.out hv.out
      have hst := hst _ rfl
      generalize la.getD j 0 = x at *
      have cR := hR.cell (j := j) (by rw [hL.out]; omega)
      have fR := hR.free j
      generalize L.getD j 0 = z at *
      have hor := high_or x r hx (by omega)
      have b0 : (0 : Int) ≤ (j : Int) := (by omega); have b1 : (j : Int) < (la.length : Int) := (by omega)
      have e1 : ((x : Int) + 4294967296 * (r : Int)) / (d : Int) = (((x + 4294967296 * r) / d : Nat) : Int) := by rw [Int.natCast_ediv, Int.natCast_add, Int.natCast_mul]; rfl
      have e2 : ((x : Int) + 4294967296 * (r : Int)) % (d : Int) = (((x + 4294967296 * r) % d : Nat) : Int) := by rw [Int.natCast_emod, Int.natCast_add, Int.natCast_mul]; rfl
      have q1 : ((x : Int) + 4294967296 * (r : Int)) / (d : Int) < 4294967296 := by rw [e1]; have := hst.1; omega
      have q2 : (0 : Int) ≤ ((x : Int) + 4294967296 * (r : Int)) / (d : Int) := by rw [e1]; exact Int.natCast_nonneg _
      have q3 : (0 : Int) ≤ ((x : Int) + 4294967296 * (r : Int)) % (d : Int) := by rw [e2]; exact Int.natCast_nonneg _
      have q4 : ((x : Int) + 4294967296 * (r : Int)) % (d : Int) < (d : Int) := by rw [e2]; have := hst.2.1; omega
      have E1 := Lib.hid e1; have E2 := Lib.hid e2; clear e1 e2; have HST := Lib.hid hst; clear hst hra; go_wp2
      go_roundw
      case rel =>
        obtain ⟨s1, s2, s3, s4, s5⟩ := HST.out; rw [E1.out, E2.out]
        exact ⟨j, (x + 4294967296 * r) % d, _, by omega, by go_num, rfl, s2, hR.set j s1, by show _ = _; rw [List.length_set]; exact hL.out, hB.setCell (Nat.le_refl _) _, s4, s5⟩
      case measure => simp [intOf]
    · obtain rfl : k = 0 := by omega
      have hst := short_end hr hv.out
      have HST := Lib.hid hst; clear hst hra
      go_wp2_with (go_at_call 191; refine (trim_row _ _ _ _ _ _ hR hL.out).mono ?_; rintro e w2 ⟨v, rfl, ho, rfl⟩)
      go_ret2; obtain ⟨s1, s2⟩ := HST.out; rw [s1] at ho
      refine ⟨v, ?_, ho, hB⟩
      rw [← s2]; rfl
end
section

end
section
def dlF : Nat → Nat → List Nat
  | 0, _ => []
  | f + 1, n => if n = 0 then [] else (n % 10) :: dlF f (n / 10)
def dl (n : Nat) : List Nat := dlF n n
def decBytes (n : Nat) : List Nat := if n = 0 then [48] else ((dl n).map (fun d => 48 + d)).reverse
def decStr (n : Nat) : ByteArray := ⟨((decBytes n).map UInt8.ofNat).toArray⟩
end
section
def asc (l : List Nat) : List Nat := l.map (fun d => 48 + d)
end
end Go.Proofs.YtdlnoeegboapkaaGreatDoor
