/-
  Contracts of the functions that copy, convert and test digits: Clone, Norm, Normal, FromUint, Uint, Bits and the reference's N, ToN, Trim, Word, Bits.
-/
import Derived.Test.YtlameeijogdckaaGreatCmp
import Derived.WalkSpells
import Derived.Lib.Strings
import Derived.Lib.Slices
import Derived.Lib.Small
import Derived.Lib.Walk
import Derived.Lib.BitFns
namespace Go.Proofs.YtlameeijogdckaaGreat
open Go.RowKit

/-- num.Trim returns the digits without the zeros at the end, in the same memory. -/
theorem numTrim_raw (w : World) (a : Option Addr) (cap : Nat) (l : List Nat) (hc : l.length ≤ cap) (hcm : cap ≤ 9223372036854775807) (hd : Dig l) (hr : Cells w a l) :
    Calls Tryz.prog 180 #[.slice a l.length cap] w fun e w' => e = .returned (.slice a (nf (val l)).length cap) ∧ w = w' := by
  go_enter Tryz.func180, Tryz.ntmps180
  go_wp2
  go_loop [3] (fun v => ∃ k : Nat, k ≤ l.length ∧ v = .int .i64 k ∧ Hid (val (l.take k) = val l)) (fun v => (intOf v).toNat)
  case atStart => exact ⟨l.length, Nat.le_refl _, rfl, by show _ = _; rw [List.take_length]⟩
  case round =>
    obtain ⟨k, hk, rfl, hv⟩ := hrel
    by_cases h0 : k = 0
    · subst h0
      have e := nf_take hd hk hv.out (.inl rfl)
      have e2 : (nf (val l)).length = 0 := by rw [e]; simp
      have E2 := Lib.hid e2
      clear e e2
      go_wp2
      go_ret
      exact ⟨by rw [E2.out]; rfl, rfl⟩
    · obtain ⟨b, off, rfl, hcell⟩ := hr (by omega)
      have h1 : 0 < k := by omega
      have hc1 := hcell (k - 1) (by omega)
      clear hcell
      by_cases hz : l.getD (k - 1) 0 = 0
      · have hv2 : val (l.take (k - 1)) = val l := by
          have := val_take_snoc l (k - 1) (by omega)
          rw [Nat.sub_add_cancel h1, hz, Nat.mul_zero, Nat.add_zero, hv.out] at this
          exact this.symm
        have HV := Lib.hid hv2
        generalize l.getD (k - 1) 0 = d at *
        have hz' := i32_eq_zero hz
        clear hz hv hv2
        go_wp2
        go_round
        case rel => exact ⟨k - 1, by omega, by go_num, HV⟩
        case measure => simp [intOf]; omega
      · have e := nf_take hd hk hv.out (.inr hz)
        have e2 : (nf (val l)).length = k := by rw [e, List.length_take]; omega
        have E2 := Lib.hid e2
        generalize l.getD (k - 1) 0 = d at *
        have hz' := i32_ne_zero hz
        clear e e2 hz hv
        go_wp2
        go_ret
        exact ⟨by rw [E2.out]; rfl, rfl⟩
theorem numTrim_own (w : World) (base : Nat) (v : Value) (l : List Nat) (h : Own w base v l) :
    Calls Tryz.prog 180 #[v] w fun e w' => ∃ v', e = .returned v' ∧ Own w base v' (nf (val l)) ∧ w = w' := by
  rcases h.shape with ⟨rfl, rfl⟩ | ⟨g, cap, rfl, h1, h2, h3, h4, h5, _⟩
  · refine (numTrim_raw w none 0 [] (Nat.le_refl _) (by omega) dig_nil (fun h => absurd h (by simp))).mono ?_
    rintro e w' ⟨rfl, rfl⟩
    exact ⟨_, rfl, Own.nil _ _, rfl⟩
  · refine (numTrim_raw w _ cap l h3 h4 h.1 (fun _ => ⟨g, 0, rfl, fun i hi => by rw [Nat.zero_add]; exact h5 i hi⟩)).mono ?_
    rintro e w' ⟨rfl, rfl⟩
    refine ⟨_, rfl, ?_, rfl⟩
    have := Own.take h (nf (val l)).length (nf_val_len h.1)
    rw [← nf_prefix h.1] at this
    exact this
theorem trim_own (w : World) (base : Nat) (v : Value) (l : List Nat) (h : Own w base v l) :
    Calls Tryz.prog 227 #[v] w fun e w' => ∃ v', e = .returned v' ∧ Own w base v' (nf (val l)) ∧ w = w' := by
  rcases h.shape with ⟨rfl, rfl⟩ | ⟨g, cap, rfl, h1, h2, h3, h4, h5, _⟩
  · refine (trim_raw w none 0 [] (Nat.le_refl _) (by omega) dig_nil (fun h => absurd h (by simp))).mono ?_
    rintro e w' ⟨rfl, rfl⟩
    exact ⟨_, rfl, Own.nil _ _, rfl⟩
  · exact trim_row w base g cap l.length l h rfl

set_option maxRecDepth 100000 in
/-- slices.Clone copies. -/
theorem clone_any (w : World) (v : Value) (l : List Nat) (h : Rd w v l) (hl : l.length ≤ 1000000) :
    Calls Tryz.prog 229 #[v] w fun e w' => ∃ z, e = .returned z ∧ Own w' w.heap.size z l ∧ Below w.heap.size w w' := by
  have hR := h
  obtain ⟨a, cap, rfl, hc, hcm, hd, hr⟩ := h
  have hnil : ∀ w n c, (binOp .eql 23 (.slice a n c) (.slice none 0 0)).run Tryz.prog w = .ok (.bool a.isNone) w := fun w n c => Lib.run_eql_slice_nil w 23 157 a n c 0 0 Tryz.underlying23
  rcases a with _ | ad
  · have hl0 : l = [] := by
      rcases Nat.eq_zero_or_pos l.length with h0 | h0
      · exact List.eq_nil_of_length_eq_zero h0
      · obtain ⟨b, off, e, _⟩ := hr h0
        cases e
    subst hl0
    go_enter Tryz.func229, Tryz.ntmps229
    go_wp2
    go_ret
    exact ⟨_, rfl, Own.nil _ _, Below.refl _ _⟩
  · go_enter Tryz.func229, Tryz.ntmps229
    go_wp2_with (at_builtin; go_loud (refine app_u32 _ rfl (.tmp 5) (.tmp 6) 23 23 rfl Tryz.underlying23 Tryz.underlying23 w.heap.size _ _ [] l rfl rfl (own_lit w [] dig_nil (by simp) _ rfl) (hR.keep ((Below.refl _ _).alloc (Nat.le_refl _) _)) (by simp; omega) (by simp) ?_); intro v1 w1 o1 g1 _)
    go_ret
    exact ⟨_, rfl, o1, own_grown (own_lit w [] dig_nil (by simp) _ rfl) ((Below.refl _ _).alloc (Nat.le_refl _) _) g1 (Nat.le_refl _)⟩

/-- nat.Norm returns the digits of the value. -/
theorem norm_any (w : World) (v : Value) (l : List Nat) (h : Rd w v l) (hl : l.length ≤ 1000000) :
    Calls Tryz.prog 208 #[v] w fun e w' => ∃ z, e = .returned z ∧ Own w' w.heap.size z (nf (val l)) ∧ Below w.heap.size w w' := by
  have hle := nf_val_len h.dig
  go_enter Tryz.func208, Tryz.ntmps208
  go_wp2_with fail
  refine (trim_any _ _ _ h).mono ?_
  rintro e w1 ⟨v', rfl, h', rfl⟩
  go_wp2_with fail
  refine (clone_any _ _ _ h' (by omega)).mono ?_
  rintro e w1 ⟨z, rfl, ho, hb⟩
  go_wp2
  go_ret
  exact ⟨_, rfl, ho, hb⟩

set_option maxRecDepth 100000 in
/-- ref.N reads the number. -/
theorem refN_any (w : World) (v : Value) (l : List Nat) (h : Rd w v l) (hl : l.length ≤ 1000000) :
    Calls Tryz.prog 103 #[v] w fun e w' => ∃ z, e = .returned z ∧ Own w' w.heap.size z (nf (val l)) ∧ Below w.heap.size w w' := by
  have hB0 : Below w.heap.size w (w.alloc (.cells #[] 157)) := (Below.refl _ _).alloc (Nat.le_refl _) _
  go_enter Tryz.func103, Tryz.ntmps103
  go_wp2_with (at_builtin; go_loud (refine app_u32 _ rfl (.tmp 3) (.tmp 4) 22 23 rfl Tryz.underlying22 Tryz.underlying23 w.heap.size _ _ [] l rfl rfl (own_lit w [] dig_nil (by simp) _ rfl) (h.keep hB0) (by simp; omega) (by simp) ?_); intro v1 w1 o1 g1 _)
  have hB1 := own_grown (own_lit w [] dig_nil (by simp) _ rfl) hB0 g1 (Nat.le_refl _)
  refine (numTrim_own _ _ _ _ o1).mono ?_
  rintro e w2 ⟨z, rfl, ho, rfl⟩
  go_wp2
  go_ret
  exact ⟨_, rfl, ho, hB1⟩

set_option maxRecDepth 100000 in
/-- ref.ToN copies the digits. -/
theorem refToN_any (w : World) (v : Value) (l : List Nat) (h : Rd w v l) (hl : l.length ≤ 1000000) :
    Calls Tryz.prog 115 #[v] w fun e w' => ∃ z, e = .returned z ∧ Own w' w.heap.size z l ∧ Below w.heap.size w w' := by
  have hB0 : Below w.heap.size w (w.alloc (.cells #[] 157)) := (Below.refl _ _).alloc (Nat.le_refl _) _
  go_enter Tryz.func115, Tryz.ntmps115
  go_wp2_with (at_builtin; go_loud (refine app_u32 _ rfl (.tmp 3) (.tmp 4) 23 32 rfl Tryz.underlying23 Tryz.underlying32 w.heap.size _ _ [] l rfl rfl (own_lit w [] dig_nil (by simp) _ rfl) (h.keep hB0) (by simp; omega) (by simp) ?_); intro v1 w1 o1 g1 _)
  go_ret
  exact ⟨_, rfl, o1, own_grown (own_lit w [] dig_nil (by simp) _ rfl) hB0 g1 (Nat.le_refl _)⟩

theorem two_digits {u : Nat} (hu : u < 18446744073709551616) : Dig [u % 4294967296, u / 4294967296] ∧ val [u % 4294967296, u / 4294967296] = u := by
  refine ⟨dig_cons (by omega) (dig_cons (by omega) dig_nil), ?_⟩
  rw [val_cons, val_cons, val_nil]; omega

set_option maxRecDepth 100000 in
theorem fromUint_any (w : World) (u : Nat) (hu : u < 18446744073709551616) :
    Calls Tryz.prog 209 #[.int .u64 (u : Int)] w fun e w' => ∃ z, e = .returned z ∧ Own w' w.heap.size z (nf u) ∧ Below w.heap.size w w' := by
  have h2 := two_digits hu
  have e1 : #[Value.int .u32 ((u : Int) % 4294967296), Value.int .u32 ((u : Int) / 4294967296)] = ([u % 4294967296, u / 4294967296].map dv).toArray := by
    show _ = #[Value.int .u32 ((u % 4294967296 : Nat) : Int), Value.int .u32 ((u / 4294967296 : Nat) : Int)]
    rw [Int.natCast_emod, Int.natCast_ediv]; rfl
  have ho := own_lit w _ h2.1 (by simp) _ e1
  have HV := Lib.hid h2.2
  have HO := Lib.hid ho
  clear e1 h2 ho
  go_enter Tryz.func209, Tryz.ntmps209
  go_wp2_with fail
  refine (trim_own _ _ _ _ HO.out).mono ?_
  rintro e w1 ⟨z, rfl, ho, rfl⟩
  rw [HV.out] at ho
  go_wp2
  go_ret
  exact ⟨_, rfl, ho, (Below.refl _ _).alloc (Nat.le_refl _) _⟩

set_option maxRecDepth 100000 in
theorem word_any (w : World) (u : Nat) (hu : u < 18446744073709551616) :
    Calls Tryz.prog 118 #[.int .u64 (u : Int)] w fun e w' => ∃ z, e = .returned z ∧ Own w' w.heap.size z (nf u) ∧ Below w.heap.size w w' := by
  have h2 := two_digits hu
  have e1 : #[Value.int .u32 ((u : Int) % 4294967296), Value.int .u32 ((u : Int) / 4294967296)] = ([u % 4294967296, u / 4294967296].map dv).toArray := by
    show _ = #[Value.int .u32 ((u % 4294967296 : Nat) : Int), Value.int .u32 ((u / 4294967296 : Nat) : Int)]
    rw [Int.natCast_emod, Int.natCast_ediv]; rfl
  have ho := own_lit w _ h2.1 (by simp) _ e1
  have HV := Lib.hid h2.2
  have HO := Lib.hid ho
  clear e1 h2 ho
  go_enter Tryz.func118, Tryz.ntmps118
  go_wp2_with fail
  refine (numTrim_own _ _ _ _ HO.out).mono ?_
  rintro e w1 ⟨z, rfl, ho, rfl⟩
  rw [HV.out] at ho
  go_wp2
  go_ret
  exact ⟨_, rfl, ho, (Below.refl _ _).alloc (Nat.le_refl _) _⟩

/-! ### machine words -/
theorem or_zero (d : Nat) (hd : d < 18446744073709551616) : bits .or .u64 0 (d : Int) = (d : Int) := by
  have := u64_or_nat 0 d (by omega) hd
  rw [Nat.zero_or] at this
  exact this
theorem or_high (x y : Nat) (hx : x < 4294967296) (hy : y < 4294967296) : bits .or .u64 (x : Int) ((y : Int) * 4294967296) = ((x + 4294967296 * y : Nat) : Int) := by
  have e : x ||| y * 4294967296 = x + 4294967296 * y := by
    have := Nat.two_pow_add_eq_or_of_lt (i := 32) (b := x) (by simpa using hx) y
    rw [Nat.or_comm, Nat.mul_comm y, Nat.add_comm]
    exact this.symm
  have h := u64_or_nat x (y * 4294967296) (by omega) (by omega)
  rw [e] at h
  rw [← h]
  congr 1
theorem high_or (x y : Nat) (hx : x < 4294967296) (hy : y < 4294967296) : bits .or .u64 ((y : Int) * 4294967296) (x : Int) = ((x + 4294967296 * y : Nat) : Int) := by
  have e : y * 4294967296 ||| x = x + 4294967296 * y := by
    have := Nat.two_pow_add_eq_or_of_lt (i := 32) (b := x) (by simpa using hx) y
    rw [Nat.mul_comm y, Nat.add_comm]
    exact this.symm
  have h := u64_or_nat (y * 4294967296) x (by omega) (by omega)
  rw [e] at h
  rw [← h]
  congr 1

/-- What Uint returns. -/
def uintV (n : Nat) : Value := .tuple #[.int .u64 ((if n < 18446744073709551616 then n else 0 : Nat) : Int), .bool (decide (n < 18446744073709551616))]
theorem uintV_lt {n : Nat} (h : n < 18446744073709551616) : uintV n = .tuple #[.int .u64 (n : Int), .bool true] := by
  unfold uintV; rw [if_pos h, decide_eq_true h]
theorem uintV_ge {n : Nat} (h : 18446744073709551616 ≤ n) : uintV n = .tuple #[.int .u64 0, .bool false] := by
  unfold uintV; rw [if_neg (by omega), decide_eq_false (by omega)]; rfl
/-- A number by its digits: none, one, two or more. -/
theorem nf_cases (n : Nat) : (n = 0 ∧ nf n = []) ∨ (∃ d0, d0 < 4294967296 ∧ n = d0 ∧ nf n = [d0]) ∨ (∃ d0 d1, d0 < 4294967296 ∧ d1 < 4294967296 ∧ n = d0 + 4294967296 * d1 ∧ nf n = [d0, d1]) ∨ (18446744073709551616 ≤ n ∧ 3 ≤ (nf n).length) := by
  have hv := val_nf n
  have hd := dig_nf n
  match h : nf n, hv, hd with
  | [], hv, hd => exact .inl ⟨hv.symm, rfl⟩
  | [d], hv, hd =>
    rw [val_cons, val_nil] at hv
    have h0 := hd d (by simp)
    obtain rfl : d = n := by omega
    exact .inr (.inl ⟨_, h0, rfl, rfl⟩)
  | [d0, d1], hv, hd =>
    rw [val_cons, val_cons, val_nil] at hv
    exact .inr (.inr (.inl ⟨d0, d1, hd d0 (by simp), hd d1 (by simp), by omega, rfl⟩))
  | d0 :: d1 :: d2 :: l, hv, hd =>
    refine .inr (.inr (.inr ⟨?_, by simp⟩))
    rcases Nat.lt_or_ge n 18446744073709551616 with hlt | hge
    · have := nf_len_le (n := n) (k := 2) (by simpa using hlt)
      rw [h] at this
      simp at this
    · exact hge

set_option maxHeartbeats 1000000 in
set_option maxRecDepth 100000 in
theorem uint_any (w : World) (v : Value) (l : List Nat) (h : Rd w v l) :
    Calls Tryz.prog 206 #[v] w fun e w' => e = .returned (uintV (val l)) ∧ w = w' := by
  go_enter Tryz.func206, Tryz.ntmps206
  go_wp2_with fail
  refine (trim_any _ _ _ h).mono ?_
  rintro e w1 ⟨v', rfl, h', rfl⟩
  obtain ⟨a, cap, hv, hc, hcm, hd, hr⟩ := h'
  rcases nf_cases (val l) with ⟨hn, hl⟩ | ⟨d0, b0, hn, hl⟩ | ⟨d0, d1, b0, b1, hn, hl⟩ | ⟨hn, hl⟩
  · rw [hl] at hv
    subst hv
    have HN := Lib.hid (show uintV (val l) = .tuple #[.int .u64 0, .bool true] by rw [hn]; exact uintV_lt (by omega))
    clear hn hl hc hd hr
    go_wp2
    refine wp_loop_rounds 1 ?_
    rw [rounds_succ]
    go_wp2
    go_ret2
    exact ⟨by rw [HN.out]; rfl, rfl⟩
  · rw [hl] at hv hc hd hr
    subst hv
    obtain ⟨b, off, rfl, hcell⟩ := hr (by simp)
    have c0 := hcell 0 (by simp)
    have HN := Lib.hid (show uintV (val l) = .tuple #[.int .u64 (d0 : Int), .bool true] by rw [hn]; exact uintV_lt (by omega))
    simp only [List.length_cons, List.length_nil, Nat.reduceAdd, List.getD_eq_getElem?_getD, List.getElem?_cons_zero, Option.getD_some, Nat.add_zero] at c0 hc ⊢
    have ho := or_zero d0 (by omega)
    clear hcell hn hl hr hd
    go_wp2
    refine wp_loop_rounds 2 ?_
    rw [rounds_succ]
    go_wp2
    rw [rounds_succ]
    go_wp2
    go_ret2
    exact ⟨by rw [HN.out]; rfl, rfl⟩
  · rw [hl] at hv hc hd hr
    subst hv
    obtain ⟨b, off, rfl, hcell⟩ := hr (by simp)
    have c0 := hcell 0 (by simp)
    have c1 := hcell 1 (by simp)
    have HN := Lib.hid (show uintV (val l) = .tuple #[.int .u64 ((d0 : Int) + 4294967296 * (d1 : Int)), .bool true] by rw [hn, uintV_lt (by omega)]; rfl)
    simp only [List.length_cons, List.length_nil, Nat.reduceAdd, List.getD_eq_getElem?_getD, List.getElem?_cons_zero, List.getElem?_cons_succ, Option.getD_some, Nat.add_zero] at c0 c1 hc ⊢
    have ho := or_zero d0 (by omega)
    have ho2 := or_high d0 d1 b0 b1
    clear hcell hn hl hr hd
    go_wp2
    refine wp_loop_rounds 3 ?_
    rw [rounds_succ]
    go_wp2
    rw [rounds_succ]
    go_wp2
    rw [rounds_succ]
    go_wp2
    go_ret2
    exact ⟨by rw [HN.out]; rfl, rfl⟩
  · subst hv
    have HN := Lib.hid (uintV_ge hn)
    generalize (nf (val l)).length = n at *
    have h2 : ((2 : Int) < (n : Int)) := by omega
    clear hn hr hd
    go_wp2
    go_ret2
    exact ⟨by rw [HN.out]; rfl, rfl⟩

end Go.Proofs.YtlameeijogdckaaGreat
