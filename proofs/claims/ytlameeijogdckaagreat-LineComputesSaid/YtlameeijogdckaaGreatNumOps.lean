/-
  Contracts of the reference's Sum, Less and Product (package bspregionnum), and of bits.Add32, bits.Sub32.
-/
import Derived.Test.YtlameeijogdckaaGreatMem
import Derived.Laws.BitsAllLaws
namespace Go.Proofs.YtlameeijogdckaaGreat
open Go.RowKit
theorem tb31 {x : Nat} (h : x < 4294967296) : x.testBit 31 = decide (2147483648 ≤ x) := by
  rw [Nat.testBit_eq_decide_div_mod_eq, decide_eq_decide]; omega
theorem shr31 {v : Nat} (h : v < 4294967296) : v / 2147483648 = if v.testBit 31 then 1 else 0 := by
  rw [tb31 h]
  by_cases hv : 2147483648 ≤ v
  · simp [hv]; omega
  · simp [hv]; omega
def subC (x y c : Nat) : Nat := if x < y + c then 1 else 0
theorem sub32_nat {x y c d : Nat} (hx : x < 4294967296) (hy : y < 4294967296) (hc : c ≤ 1) (hd : d = (x + 8589934592 - y - c) % 4294967296) :
    (((4294967295 ^^^ x) &&& y) ||| ((4294967295 ^^^ (x ^^^ y)) &&& d)) / 2147483648 = subC x y c := by
  have hd2 : d < 4294967296 := by omega
  have h1 : ((4294967295 ^^^ x) &&& y) < 2 ^ 32 := Nat.and_lt_two_pow _ (by omega)
  have h2 : ((4294967295 ^^^ (x ^^^ y)) &&& d) < 2 ^ 32 := Nat.and_lt_two_pow _ (by omega)
  have h3 := Nat.or_lt_two_pow h1 h2
  rw [shr31 (by simpa using h3)]
  rw [Nat.testBit_or, Nat.testBit_and, Nat.testBit_and, Nat.testBit_xor, Nat.testBit_xor, Nat.testBit_xor, tb31 hx, tb31 hy, tb31 hd2, show (4294967295 : Nat).testBit 31 = true by decide]
  unfold subC
  by_cases a : 2147483648 ≤ x <;> by_cases b : 2147483648 ≤ y <;> by_cases e : 2147483648 ≤ d <;> simp [a, b, e] <;> omega
theorem sub32_law {x y c : Nat} (hx : x < 4294967296) (hy : y < 4294967296) (hc : c ≤ 1) :
    bits .or .u32 (bits .and .u32 (bits .xor .u32 IntKind.u32.max (x : Int)) (y : Int)) (bits .and .u32 (bits .xor .u32 IntKind.u32.max (bits .xor .u32 (x : Int) (y : Int))) (((x : Int) - y - c) % 4294967296)) / 2147483648 = ((subC x y c : Nat) : Int) := by
  have hd : ((x : Int) - y - c) % 4294967296 = (((x + 8589934592 - y - c) % 4294967296 : Nat) : Int) := by omega
  have hm : IntKind.u32.max = ((4294967295 : Nat) : Int) := by decide
  have hxy : x ^^^ y < 2 ^ 32 := Nat.xor_lt_two_pow (by omega) (by omega)
  have e1 : 4294967295 ^^^ x < 2 ^ 32 := Nat.xor_lt_two_pow (by omega) (by omega)
  have e2 : 4294967295 ^^^ (x ^^^ y) < 2 ^ 32 := Nat.xor_lt_two_pow (by omega) hxy
  rw [hd, hm, u32_xor_nat _ _ (by omega) hx, u32_xor_nat _ _ hx hy, u32_xor_nat _ _ (by omega) (by simpa using hxy), u32_and_nat _ _ (by simpa using e1) hy, u32_and_nat _ _ (by simpa using e2) (by omega),
    u32_or_nat _ _ (by simpa using Nat.and_lt_two_pow _ (show y < 2 ^ 32 by omega)) (by simpa using Nat.and_lt_two_pow _ (show (x + 8589934592 - y - c) % 4294967296 < 2 ^ 32 by omega))]
  rw [← sub32_nat hx hy hc rfl]
  omega
set_option maxRecDepth 100000 in
theorem add32I {w : World} {x y c : Int} (hx0 : 0 ≤ x) (hx : x < 4294967296) (hy0 : 0 ≤ y) (hy : y < 4294967296) (hc0 : 0 ≤ c) (hc : c ≤ 1) :
    Calls Tryz.prog 234 #[.int .u32 x, .int .u32 y, .int .u32 c] w fun e w' => e = .returned (.tuple #[.int .u32 ((x + y + c) % 4294967296), .int .u32 ((x + y + c) / 4294967296)]) ∧ w = w' := by
  go_enter Tryz.func234, Tryz.ntmps234
  go_wp2
  go_ret2
  exact ⟨rfl, rfl⟩
theorem two_eq {k : IntKind} {a a' b b' : Int} (h1 : a = a') (h2 : b = b') : Ending.returned (.tuple #[.int k a, .int k b]) = Ending.returned (.tuple #[.int k a', .int k b']) := by rw [h1, h2]
/-- What Sub32 returns. -/
def Sub32V (x y c : Nat) : Value := .tuple #[.int .u32 (((x + 8589934592 - y - c) % 4294967296 : Nat) : Int), .int .u32 ((subC x y c : Nat) : Int)]
set_option maxRecDepth 100000 in
theorem sub32W {w : World} {x y c : Nat} (hx : x < 4294967296) (hy : y < 4294967296) (hc : c ≤ 1) :
    Calls Tryz.prog 233 #[.int .u32 (x : Int), .int .u32 (y : Int), .int .u32 (c : Int)] w fun e w' => e = .returned (Sub32V x y c) ∧ w = w' := by
  have HL := Lib.hid (sub32_law hx hy hc)
  have HD := Lib.hid (show (((x : Int) - y) % 4294967296 - c) % 4294967296 = (((x + 8589934592 - y - c) % 4294967296 : Nat) : Int) by omega)
  have hs : IntKind.u32.signed = false := rfl
  go_enter Tryz.func233, Tryz.ntmps233
  go_wp2
  go_ret2
  refine ⟨?_, rfl⟩
  exact two_eq HD.out HL.out

theorem val_take_getD (l : List Nat) (k : Nat) : val (l.take (k + 1)) = val (l.take k) + 4294967296 ^ k * l.getD k 0 := by
  rcases Nat.lt_or_ge k l.length with h | h
  · exact val_take_snoc l k h
  · rw [List.take_of_length_le (by omega), List.take_of_length_le h, List.getD_eq_getElem?_getD, List.getElem?_eq_none h]; simp
theorem getD_out {l : List Nat} {k : Nat} (h : ¬ k < l.length) : l.getD k 0 = 0 := by
  rw [List.getD_eq_getElem?_getD, List.getElem?_eq_none (by omega)]; rfl
/-- The loop's arithmetic: digit k of a + b, c carried in. -/
theorem sum_step {la lb L : List Nat} {c k x y N : Nat} (hL : L.length = N + 1) (hz : ∀ j, k ≤ j → L.getD j 0 = 0) (hdL : Dig L) (hc : c ≤ 1) (hk : k < N) (hda : Dig la) (hdb : Dig lb)
    (hx : la.getD k 0 = x) (hy : lb.getD k 0 = y) (h : val L + 4294967296 ^ k * c = val (la.take k) + val (lb.take k)) :
    Dig (L.set k ((x + y + c) % 4294967296)) ∧ (x + y + c) / 4294967296 ≤ 1 ∧ (∀ j, k + 1 ≤ j → (L.set k ((x + y + c) % 4294967296)).getD j 0 = 0) ∧
      val (L.set k ((x + y + c) % 4294967296)) + 4294967296 ^ (k + 1) * ((x + y + c) / 4294967296) = val (la.take (k + 1)) + val (lb.take (k + 1)) := by
  have h1 := dig_get hda k
  have h1' := dig_get hdb k
  rw [hx] at h1
  rw [hy] at h1'
  have h2 := carry_round (L := L) (j := k) (c := c) (s := x + y) (t := x + y + c) (by omega) (by rw [hz k (Nat.le_refl _)]; omega)
  refine ⟨dig_set hdL k (by omega), by omega, fun j hj => ?_, ?_⟩
  · rw [set_getD_ne _ _ _ _ (by omega)]; exact hz j (by omega)
  · rw [h2, val_take_getD la, val_take_getD lb, hx, hy, Nat.mul_add, h]; omega
theorem sum_end {la lb L : List Nat} {c N : Nat} (hL : L.length = N + 1) (hz : ∀ j, N ≤ j → L.getD j 0 = 0) (hla : la.length ≤ N) (hlb : lb.length ≤ N)
    (h : val L + 4294967296 ^ N * c = val (la.take N) + val (lb.take N)) : val (L.set N c) = val la + val lb := by
  rw [last_carry (by omega) (hz _ (Nat.le_refl _)), h, List.take_of_length_le hla, List.take_of_length_le hlb]

set_option maxRecDepth 100000 in
set_option maxHeartbeats 2000000 in
theorem sum_any (w : World) (u v : Value) (la lb : List Nat) (hu : Rd w u la) (hv : Rd w v lb) (hla : la.length ≤ 1000000) (hlb : lb.length ≤ 1000000) :
    Calls Tryz.prog 219 #[u, v] w fun e w' => ∃ z, e = .returned z ∧ Own w' w.heap.size z (nf (val la + val lb)) ∧ Below w.heap.size w w' := by
  obtain ⟨a, capa, rfl, _, _, hda, hra⟩ := hu
  obtain ⟨b, capb, rfl, _, _, hdb, hrb⟩ := hv
  obtain ⟨N, hN⟩ : ∃ N, N = max la.length lb.length := ⟨_, rfl⟩
  have hNa : la.length ≤ N := by omega
  have hNb : lb.length ≤ N := by omega
  have hNN : N < la.length ∨ N = la.length ∨ N = lb.length := by omega
  have hN1 : N ≤ 1000000 := by omega
  have hM : max (la.length : Int) (lb.length : Int) = (N : Int) := by omega
  have HN := Lib.hid (show ∀ k, k < N → k < la.length ∨ k < lb.length by intro k; omega)
  clear hN hNN
  go_enter Tryz.func219, Tryz.ntmps219
  go_wp2_with (at_make; go_loud (refine make_u32 _ rfl (.tmp 17) (.tmp 17) 22 rfl Tryz.underlying22 _ _ (N + 1) rfl rfl (by omega) (by omega) (by omega) ?_); intro w1 R0 B0; clear hM)
  go_loopw [7, 8] (fun c i wr => ∃ (k cn : Nat) (L : List Nat), k ≤ N ∧ i = .int .i64 k ∧ c = .int .u32 cn ∧ cn ≤ 1 ∧ Row wr w.heap.size w.heap.size (N + 1) L ∧ Hid (L.length = N + 1) ∧ Below w.heap.size w wr ∧
        Hid (∀ j, k ≤ j → L.getD j 0 = 0) ∧ Hid (val L + 4294967296 ^ k * cn = val (la.take k) + val (lb.take k))) (fun _ i _ => N - (intOf i).toNat)
  case atStart => exact ⟨0, 0, _, Nat.zero_le _, rfl, rfl, by omega, R0, by show _ = _; simp, B0, fun j _ => getD_replicate _ _, by show _ = _; simp [val_replicate, val_nil]⟩
  case round =>
    obtain ⟨k, cn, L, hk, rfl, rfl, hcn, hR, hL, hB, hz, hv⟩ := hrel
    have hRc := hR.cap
    have hRl := hR.lt
    by_cases hlt : k < N
    · have cR := hR.cell (j := k) (by rw [hL.out]; omega)
      have fR := hR.free k
      generalize L.getD k 0 = z at *
      by_cases hka : k < la.length
      · obtain ⟨ba, offa, rfl, cA⟩ := hra.at hB hka
        have hx := dig_get hda k
        have hst := fun x y => @sum_step la lb L cn k x y N hL.out hz.out hR.dig hcn hlt hda hdb
        generalize la.getD k 0 = x at *
        by_cases hkb : k < lb.length
        · obtain ⟨bb, offb, rfl, cB⟩ := hrb.at hB hkb
          have hy := dig_get hdb k
          generalize lb.getD k 0 = y at *
          have HST := Lib.hid (hst x y rfl rfl hv.out)
          have HE1 := Lib.hid (show ((x : Int) + (y : Int) + (cn : Int)) % 4294967296 = (((x + y + cn) % 4294967296 : Nat) : Int) by omega)
          clear hst hra hrb
          go_wp2_with (go_at_call 234; refine (add32I (by omega) (by omega) (by omega) (by omega) (by omega) (by omega)).mono ?_; rintro e w' ⟨rfl, rfl⟩)
          go_roundw
          case rel =>
            obtain ⟨s1, s2, s3, s4⟩ := HST.out
            rw [HE1.out]
            exact ⟨k + 1, (x + y + cn) / 4294967296, L.set k ((x + y + cn) % 4294967296), by omega, by go_num, by go_num, s2, hR.set k (by omega), by show _ = _; rw [List.length_set]; exact hL.out, hB.setCell (Nat.le_refl _) _, s3, s4⟩
          case measure => simp [intOf]; omega
        · have HST := Lib.hid (hst x 0 rfl (getD_out hkb) hv.out)
          have HE1 := Lib.hid (show ((x : Int) + (cn : Int)) % 4294967296 = (((x + 0 + cn) % 4294967296 : Nat) : Int) by omega)
          clear hst hra hrb
          go_wp2_with (go_at_call 234; refine (add32I (by omega) (by omega) (by omega) (by omega) (by omega) (by omega)).mono ?_; rintro e w' ⟨rfl, rfl⟩)
          go_roundw
          case rel =>
            obtain ⟨s1, s2, s3, s4⟩ := HST.out
            rw [HE1.out]
            exact ⟨k + 1, (x + 0 + cn) / 4294967296, L.set k ((x + 0 + cn) % 4294967296), by omega, by go_num, by go_num, s2, hR.set k (by omega), by show _ = _; rw [List.length_set]; exact hL.out, hB.setCell (Nat.le_refl _) _, s3, s4⟩
          case measure => simp [intOf]; omega
      · have hkb : k < lb.length := by rcases HN.out k hlt with h | h <;> omega
        obtain ⟨bb, offb, rfl, cB⟩ := hrb.at hB hkb
        have hy := dig_get hdb k
        have hst := fun y => @sum_step la lb L cn k 0 y N hL.out hz.out hR.dig hcn hlt hda hdb (getD_out hka)
        generalize lb.getD k 0 = y at *
        have HST := Lib.hid (hst y rfl hv.out)
        have HE1 := Lib.hid (show ((y : Int) + (cn : Int)) % 4294967296 = (((0 + y + cn) % 4294967296 : Nat) : Int) by omega)
        clear hst hra hrb
        go_wp2_with (go_at_call 234; refine (add32I (by omega) (by omega) (by omega) (by omega) (by omega) (by omega)).mono ?_; rintro e w' ⟨rfl, rfl⟩)
        go_roundw
        case rel =>
          obtain ⟨s1, s2, s3, s4⟩ := HST.out
          rw [HE1.out]
          exact ⟨k + 1, (0 + y + cn) / 4294967296, L.set k ((0 + y + cn) % 4294967296), by omega, by go_num, by go_num, s2, hR.set k (by omega), by show _ = _; rw [List.length_set]; exact hL.out, hB.setCell (Nat.le_refl _) _, s3, s4⟩
        case measure => simp [intOf]; omega
    · obtain rfl : k = N := by omega
      have cR := hR.cell (j := k) (by rw [hL.out]; omega)
      have fR := hR.free k
      generalize L.getD k 0 = z at *
      have HV := Lib.hid (sum_end hL.out hz.out hNa hNb hv.out)
      have HR2 := hR.set k (d := cn) (by omega)
      have HLL := Lib.hid (show (L.set k cn).length = k + 1 by rw [List.length_set]; exact hL.out)
      clear hra hrb
      go_wp2_with (go_at_call 180; refine (numTrim_own _ _ _ _ (show Own _ _ _ _ from by have := HR2; unfold Row at this; rw [HLL.out] at this; exact this)).mono ?_; rintro e w2 ⟨v, rfl, ho, rfl⟩)
      go_ret
      rw [HV.out] at ho
      exact ⟨v, rfl, ho, hB.setCell (Nat.le_refl _) _⟩

theorem sub32_ge {w : World} {x y c : Int} (hx0 : 0 ≤ x) (hx : x < 4294967296) (hy0 : 0 ≤ y) (hy : y < 4294967296) (hc0 : 0 ≤ c) (hc : c ≤ 1) (h : y + c ≤ x) :
    Calls Tryz.prog 233 #[.int .u32 x, .int .u32 y, .int .u32 c] w fun e w' => e = .returned (.tuple #[.int .u32 (x - y - c), .int .u32 0]) ∧ w = w' := by
  obtain ⟨x, rfl⟩ := Int.eq_ofNat_of_zero_le hx0
  obtain ⟨y, rfl⟩ := Int.eq_ofNat_of_zero_le hy0
  obtain ⟨c, rfl⟩ := Int.eq_ofNat_of_zero_le hc0
  refine (sub32W (by omega) (by omega) (by omega)).mono ?_
  rintro e w' ⟨rfl, rfl⟩
  refine ⟨two_eq (by omega) ?_, rfl⟩
  unfold subC; rw [if_neg (by omega)]; rfl
theorem sub32_lt {w : World} {x y c : Int} (hx0 : 0 ≤ x) (hx : x < 4294967296) (hy0 : 0 ≤ y) (hy : y < 4294967296) (hc0 : 0 ≤ c) (hc : c ≤ 1) (h : x < y + c) :
    Calls Tryz.prog 233 #[.int .u32 x, .int .u32 y, .int .u32 c] w fun e w' => e = .returned (.tuple #[.int .u32 (x - y - c + 4294967296), .int .u32 1]) ∧ w = w' := by
  obtain ⟨x, rfl⟩ := Int.eq_ofNat_of_zero_le hx0
  obtain ⟨y, rfl⟩ := Int.eq_ofNat_of_zero_le hy0
  obtain ⟨c, rfl⟩ := Int.eq_ofNat_of_zero_le hc0
  refine (sub32W (by omega) (by omega) (by omega)).mono ?_
  rintro e w' ⟨rfl, rfl⟩
  refine ⟨two_eq (by omega) ?_, rfl⟩
  unfold subC; rw [if_pos (by omega)]; rfl

set_option maxRecDepth 100000 in
set_option maxHeartbeats 2000000 in
theorem numLess_any (w : World) (u v : Value) (la lb : List Nat) (hu : Rd w u la) (hv : Rd w v lb) (hlen : lb.length ≤ la.length) (hle : val lb ≤ val la) (hla : la.length ≤ 1000000) :
    Calls Tryz.prog 216 #[u, v] w fun e w' => ∃ z, e = .returned z ∧ Own w' w.heap.size z (nf (val la - val lb)) ∧ Below w.heap.size w w' := by
  obtain ⟨a, capa, rfl, _, _, hda, hra⟩ := hu
  obtain ⟨b, capb, rfl, _, _, hdb, hrb⟩ := hv
  have HLE := Lib.hid hle
  clear hle
  go_enter Tryz.func216, Tryz.ntmps216
  go_wp2_with (at_make; go_loud (refine make_u32 _ rfl (.tmp 10) (.tmp 10) 22 rfl Tryz.underlying22 _ _ la.length rfl rfl (by omega) (by omega) (by omega) ?_); intro w1 R0 B0)
  go_loopw [6, 14] (fun c i wr => ∃ (k cn : Nat) (L : List Nat), k ≤ la.length ∧ i = .int .i64 k ∧ c = .int .u32 cn ∧ cn ≤ 1 ∧ Row wr w.heap.size w.heap.size la.length L ∧ Hid (L.length = la.length) ∧ Below w.heap.size w wr ∧
      Hid (∀ j, k ≤ j → L.getD j 0 = 0) ∧ Hid (val L + val (lb.take k) = val (la.take k) + 4294967296 ^ k * cn)) (fun _ i _ => la.length - (intOf i).toNat)
  case atStart => exact ⟨0, 0, _, Nat.zero_le _, rfl, rfl, by omega, R0, by show _ = _; simp, B0, fun j _ => getD_replicate _ _, by show _ = _; simp [val_replicate, val_nil]⟩
  case round =>
    obtain ⟨k, cn, L, hk, rfl, rfl, hcn, hR, hL, hB, hz, hv⟩ := hrel
    have hRc := hR.cap
    have hRl := hR.lt
    by_cases hlt : k < la.length
    · obtain ⟨ba, offa, rfl, cA⟩ := hra.at hB hlt
      have hst := fun x y d c' => @sub_step la lb L cn k d c' x y hL.out hz.out hlt
      have cR := hR.cell (j := k) (by rw [hL.out]; omega)
      have fR := hR.free k
      have hx := dig_get hda k
      generalize hgx : la.getD k 0 = x at *
      have hst := fun y d c' => hst x y d c' rfl hv.out
      clear hgx
      generalize L.getD k 0 = z at *
      by_cases hltb : k < lb.length
      · obtain ⟨bb, offb, rfl, cB⟩ := hrb.at hB hltb
        have hy := dig_get hdb k
        generalize hgy : lb.getD k 0 = y at *
        have hst := fun d c' => hst y d c' (.inl ⟨hltb, rfl⟩)
        clear hgy
        by_cases hge : y + cn ≤ x
        · have HST := Lib.hid (hst (x - y - cn) 0 (by omega))
          clear hst hra hrb
          go_wp2_with (go_at_call 233; refine (sub32_ge (by omega) (by omega) (by omega) (by omega) (by omega) (by omega) (by omega)).mono ?_; rintro e w' ⟨rfl, rfl⟩)
          go_roundw
          case rel =>
            obtain ⟨s1, s2⟩ := HST.out
            rw [show ((x : Int) - (y : Int) - (cn : Int)) = ((x - y - cn : Nat) : Int) by omega]
            exact ⟨k + 1, 0, _, by omega, by go_num, by go_num, by omega, hR.set k (by omega), by show _ = _; rw [List.length_set]; exact hL.out, hB.setCell (Nat.le_refl _) _, s1, s2⟩
          case measure => simp [intOf]; omega
        · have HST := Lib.hid (hst (x + 4294967296 - y - cn) 1 (by omega))
          clear hst hra hrb
          go_wp2_with (go_at_call 233; refine (sub32_lt (by omega) (by omega) (by omega) (by omega) (by omega) (by omega) (by omega)).mono ?_; rintro e w' ⟨rfl, rfl⟩)
          go_roundw
          case rel =>
            obtain ⟨s1, s2⟩ := HST.out
            rw [show ((x : Int) - (y : Int) - (cn : Int) + 4294967296) = ((x + 4294967296 - y - cn : Nat) : Int) by omega]
            exact ⟨k + 1, 1, _, by omega, by go_num, by go_num, by omega, hR.set k (by omega), by show _ = _; rw [List.length_set]; exact hL.out, hB.setCell (Nat.le_refl _) _, s1, s2⟩
          case measure => simp [intOf]; omega
      · have hst := fun d c' => hst 0 d c' (.inr ⟨by omega, rfl⟩)
        by_cases hge : cn ≤ x
        · have HST := Lib.hid (hst (x - 0 - cn) 0 (by omega))
          clear hst hra hrb
          go_wp2_with (go_at_call 233; refine (sub32_ge (by omega) (by omega) (by omega) (by omega) (by omega) (by omega) (by omega)).mono ?_; rintro e w' ⟨rfl, rfl⟩)
          go_roundw
          case rel =>
            obtain ⟨s1, s2⟩ := HST.out
            first | rw [show ((x : Int) - (cn : Int)) = ((x - 0 - cn : Nat) : Int) by omega] | rw [show ((x : Int) - 0 - (cn : Int)) = ((x - 0 - cn : Nat) : Int) by omega]
            exact ⟨k + 1, 0, _, by omega, by go_num, by go_num, by omega, hR.set k (by omega), by show _ = _; rw [List.length_set]; exact hL.out, hB.setCell (Nat.le_refl _) _, s1, s2⟩
          case measure => simp [intOf]; omega
        · have HST := Lib.hid (hst (x + 4294967296 - 0 - cn) 1 (by omega))
          clear hst hra hrb
          go_wp2_with (go_at_call 233; refine (sub32_lt (by omega) (by omega) (by omega) (by omega) (by omega) (by omega) (by omega)).mono ?_; rintro e w' ⟨rfl, rfl⟩)
          go_roundw
          case rel =>
            obtain ⟨s1, s2⟩ := HST.out
            first | rw [show ((x : Int) - (cn : Int) + 4294967296) = ((x + 4294967296 - 0 - cn : Nat) : Int) by omega] | rw [show ((x : Int) - 0 - (cn : Int) + 4294967296) = ((x + 4294967296 - 0 - cn : Nat) : Int) by omega]
            exact ⟨k + 1, 1, _, by omega, by go_num, by go_num, by omega, hR.set k (by omega), by show _ = _; rw [List.length_set]; exact hL.out, hB.setCell (Nat.le_refl _) _, s1, s2⟩
          case measure => simp [intOf]; omega
    · have hkl : k = la.length := by omega
      subst hkl
      have HV := Lib.hid (sub_end hR.dig hL.out hlen HLE.out hv.out)
      have HR2 := hR
      clear hra hrb
      go_wp2_with (go_at_call 180; refine (numTrim_own _ _ _ _ (show Own _ _ _ _ from by have := HR2; unfold Row at this; rw [hL.out] at this; exact this)).mono ?_; rintro e w2 ⟨v, rfl, ho, rfl⟩)
      go_ret
      rw [HV.out] at ho
      exact ⟨v, rfl, ho, hB⟩

set_option maxRecDepth 100000 in
set_option maxHeartbeats 2000000 in
theorem product_any (w : World) (u v : Value) (xs ys : List Nat) (hu : Rd w u xs) (hv : Rd w v ys) (hx1 : xs.length ≤ 1000000) (hy1 : ys.length ≤ 1000000) :
    Calls Tryz.prog 108 #[u, v] w fun e w' => ∃ z, e = .returned z ∧ Own w' w.heap.size z (nf (val xs * val ys)) ∧ Below w.heap.size w w' := by
  obtain ⟨a, capa, rfl, _, _, hda, hra⟩ := hu
  obtain ⟨b, capb, rfl, _, _, hdb, hrb⟩ := hv
  by_cases h11 : xs.length = 1 ∧ ys.length = 1
  · obtain ⟨h1, h2⟩ := h11
    obtain ⟨x, rfl⟩ : ∃ x, xs = [x] := List.length_eq_one_iff.1 h1
    obtain ⟨y, rfl⟩ : ∃ y, ys = [y] := List.length_eq_one_iff.1 h2
    clear h1 h2 hx1 hy1
    obtain ⟨ba, offa, rfl, cA⟩ := hra (by simp)
    obtain ⟨bb, offb, rfl, cB⟩ := hrb (by simp)
    have cA := cA 0 (by simp)
    have cB := cB 0 (by simp)
    have hx := hda x (by simp)
    have hy := hdb y (by simp)
    have hm := mul_int hx hy
    have HW := Lib.hid (show IntKind.u64.wrap (IntKind.u64.wrap (x : Int) * IntKind.u64.wrap (y : Int)) = ((x * y : Nat) : Int) by
      rw [show IntKind.u64.wrap (x : Int) = x by rw [IntKind.wrap_u64]; omega, show IntKind.u64.wrap (y : Int) = y by rw [IntKind.wrap_u64]; omega, IntKind.wrap_u64, Int.natCast_mul, Int.emod_eq_of_lt hm.1 (by omega)])
    have HL := Lib.hid (show x * y < 18446744073709551616 by have := hm.2; rw [← Int.natCast_mul] at this; omega)
    have hvx : val [x] * val [y] = x * y := by simp [val_cons, val_nil]
    rw [hvx]
    clear hra hrb hda hdb hvx
    simp only [List.getD_eq_getElem?_getD, List.getElem?_cons_zero, Option.getD_some, Nat.add_zero, List.length_cons, List.length_nil, Nat.zero_add] at cA cB ⊢
    go_enter Tryz.func108, Tryz.ntmps108
    go_wp2_with fail
    go_region_held3 (fun w' => w'.cell? ⟨ba, offa, none⟩ = some (.int .u32 (x : Int)) ∧ w'.cell? ⟨bb, offb, none⟩ = some (.int .u32 (y : Int)))
      (first | go_keep | (go_split_ands; exact ⟨keepc (by assumption) (by assumption), keepc (by assumption) (by assumption)⟩))
      (first
      | (go_at_call 118; rw [HW.out]; refine (word_any _ (x * y) HL.out).mono ?_; rintro e w' ⟨z, rfl, hz, hb⟩))
    go_wp2
    go_ret
    exact ⟨_, rfl, hz, blw_trans (blw_drew (Below.refl _ _)) hb⟩
  · have hb : ((xs.length : Int) == 1) = false ∨ ((xs.length : Int) == 1) = true ∧ ((ys.length : Int) == 1) = false := by
      simp only [beq_eq_false_iff_ne, beq_iff_eq]; omega
    clear h11
    go_enter Tryz.func108, Tryz.ntmps108
    rcases hb with hb1 | ⟨hb1, hb2⟩
    all_goals
      go_wp2_with (at_make; go_loud (refine make_u32 _ rfl (.tmp 34) (.tmp 34) 22 rfl Tryz.underlying22 _ _ (xs.length + ys.length) rfl rfl (by omega) (by omega) (by omega) ?_); intro w1 R0 B0)
      go_loopw [38] (fun i wr => ∃ (k : Nat) (L : List Nat), k ≤ xs.length ∧ i = .int .i64 k ∧ Row wr w.heap.size w.heap.size (xs.length + ys.length) L ∧ Hid (L.length = xs.length + ys.length) ∧ Below w.heap.size w wr ∧
          Hid (∀ j, k + ys.length ≤ j → L.getD j 0 = 0) ∧ Hid (val L = val (xs.take k) * val ys)) (fun i _ => xs.length - (intOf i).toNat)
      case atStart => exact ⟨0, _, Nat.zero_le _, rfl, R0, by show _ = _; simp, B0, fun j _ => getD_replicate _ _, by show _ = _; simp [val_replicate, val_nil]⟩
      case round =>
        obtain ⟨i, L0, hi, rfl, hR0, hL0, hB0, hz0, hv0⟩ := hrel
        obtain ⟨wo, hwo⟩ : ∃ wo : World, wo = wr := ⟨_, rfl⟩
        subst hwo
        by_cases hlt : i < xs.length
        · obtain ⟨ba, offa, rfl, cA⟩ := hra.at hB0 hlt
          have hx := dig_get hda i
          have HX := Lib.hid (val_take_snoc xs i hlt)
          generalize xs.getD i 0 = x at *
          have hrow0 := hR0.lt
          go_wp2
          go_loopw [8, 45] (fun c i' wr => ∃ (k cn : Nat) (L : List Nat), k ≤ ys.length ∧ i' = .int .i64 k ∧ c = .int .u64 cn ∧ cn < 4294967296 ∧ Row wr w.heap.size w.heap.size (xs.length + ys.length) L ∧ Hid (L.length = xs.length + ys.length) ∧ Below w.heap.size w wr ∧
              Hid (∀ j, i + ys.length ≤ j → L.getD j 0 = 0) ∧ Hid (val L + 4294967296 ^ (i + k) * cn = val (xs.take i) * val ys + 4294967296 ^ i * (x * val (ys.take k)))) (fun _ i' _ => ys.length - (intOf i').toNat)
          case atStart => exact ⟨0, 0, L0, Nat.zero_le _, rfl, rfl, by omega, hR0, hL0, hB0, hz0, by show _ = _; rw [hv0.out]; simp [val_nil]⟩
          case round =>
            obtain ⟨k, cn, L, hk, rfl, rfl, hcn, hR, hL, hB, hz, hv⟩ := hrel
            have hRl := hR.lt
            have hRc := hR.cap
            by_cases hltb : k < ys.length
            · obtain ⟨bb, offb, rfl, cB⟩ := hrb.at hB hltb
              have hy := dig_get hdb k
              have hst := fun y => @mul_step L (val (xs.take i) * val ys) i k cn x y (val (ys.take k)) ys.length (by rw [hL.out]; omega) hltb hR.dig hx
              have hvt := val_take_snoc ys k hltb
              generalize ys.getD k 0 = y at *
              have cR := hR.cell (j := i + k) (by rw [hL.out]; omega)
              have fR := hR.free (i + k)
              have hdz := dig_get hR.dig (i + k)
              have hst := hst y hy hcn hz.out (L.getD (i + k) 0) rfl hv.out
              generalize L.getD (i + k) 0 = z at *
              rw [← hvt] at hst
              have HST := Lib.hid hst
              have hm := mul_int hx hy
              clear hst hvt hra hrb
              go_wp2
              go_roundw
              case rel =>
                obtain ⟨s1, s2, s3, s4⟩ := HST.out
                have e0 : (x : Int) * (y : Int) + (z : Int) + (cn : Int) = ((cn + x * y + z : Nat) : Int) := by
                  rw [Int.natCast_add, Int.natCast_add, Int.natCast_mul]; omega
                rw [e0]
                have e1 : ((cn + x * y + z : Nat) : Int) % 4294967296 = (((cn + x * y + z) % 4294967296 : Nat) : Int) := by omega
                rw [e1]
                exact ⟨k + 1, (cn + x * y + z) / 4294967296, _, by omega, by go_num, by go_num, s2, hR.set (i + k) (by omega), by show _ = _; rw [List.length_set]; exact hL.out, hB.setCell (Nat.le_refl _) _, s3, s4⟩
              case measure => simp [intOf]; omega
            · have hkl : k = ys.length := by omega
              subst hkl
              have cR := hR.cell (j := i + ys.length) (by rw [hL.out]; omega)
              have fR := hR.free (i + ys.length)
              generalize L.getD (i + ys.length) 0 = z at *
              have hv2 := hv.out
              rw [List.take_length] at hv2
              have hst := mul_last (by rw [hL.out]; omega) hz.out hv2
              rw [← HX.out] at hst
              have HST := Lib.hid hst
              clear hst hv2 hra hrb
              go_wp2
              go_roundw
              case rel =>
                obtain ⟨s1, s2⟩ := HST.out
                exact ⟨i + 1, _, by omega, by go_num, hR.set (i + ys.length) hcn, by show _ = _; rw [List.length_set]; exact hL.out, hB.setCell (Nat.le_refl _) _, s1, s2⟩
              case measure => simp [intOf]; omega
        · have hil : i = xs.length := by omega
          subst hil
          have hv2 := hv0.out
          rw [List.take_length] at hv2
          have HV := Lib.hid hv2
          clear hv2 hra hrb
          go_wp2_with (go_at_call 180; refine (numTrim_own _ _ _ _ (show Own _ _ _ _ from by have := hR0; unfold Row at this; rw [hL0.out] at this; exact this)).mono ?_; rintro e w2 ⟨v, rfl, ho, rfl⟩)
          go_ret
          rw [HV.out] at ho
          exact ⟨v, rfl, ho, hB0⟩
end Go.Proofs.YtlameeijogdckaaGreat
