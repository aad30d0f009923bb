/-
  Texts of this claim, joined: NumOps, NumW.
-/
import Derived.Test.YtdlnoeegboapkaaGreatDoorCE
import Derived.Laws.BitsAllLaws
import Derived.Test.YtdlnoeegboapkaaGreatDoorCB
/- Contracts of the reference's Sum, Less and Product (package bspregionnum), and of bits.Add32, bits.Sub32. -/
namespace Go.Proofs.YtdlnoeegboapkaaGreatDoor
open Go.RowKit
set_option maxRecDepth 100000
set_option maxHeartbeats 40000000
set_option synthInstance.maxSize 100000
set_option synthInstance.maxHeartbeats 1000000
theorem tb31 {x : Nat} (h : x < 4294967296) : x.testBit 31 = decide (2147483648 ≤ x) := by
  rw [Nat.testBit_eq_decide_div_mod_eq, decide_eq_decide]; omega
theorem shr31 {v : Nat} (h : v < 4294967296) : v / 2147483648 = if v.testBit 31 then 1 else 0 := by
  rw [tb31 h]
  by_cases hv : 2147483648 ≤ v
  · simp [hv]; omega
  · simp [hv]; omega
def subC (x y c : Nat) : Nat := if x < y + c then 1 else 0
theorem sub32_nat {x y c d : Nat} (hx : x < 4294967296) (hy : y < 4294967296) (hc : c ≤ 1) (hd : d = (x + 8589934592 - y - c) % 4294967296) :
    (((4294967295 ^^^ x) &&& y) ||| ((4294967295 ^^^ (x ^^^ y)) &&& d)) / 2147483648 = subC x y c := by
  have hd2 : d < 4294967296 := by omega
  have h1 : ((4294967295 ^^^ x) &&& y) < 2 ^ 32 := Nat.and_lt_two_pow _ (by omega)
  have h2 : ((4294967295 ^^^ (x ^^^ y)) &&& d) < 2 ^ 32 := Nat.and_lt_two_pow _ (by omega)
  have h3 := Nat.or_lt_two_pow h1 h2
  rw [shr31 (by simpa using h3)]
  rw [Nat.testBit_or, Nat.testBit_and, Nat.testBit_and, Nat.testBit_xor, Nat.testBit_xor, Nat.testBit_xor, tb31 hx, tb31 hy, tb31 hd2, show (4294967295 : Nat).testBit 31 = true by decide]
  unfold subC
  by_cases a : 2147483648 ≤ x <;> by_cases b : 2147483648 ≤ y <;> by_cases e : 2147483648 ≤ d <;> simp [a, b, e] <;> omega
theorem sub32_law {x y c : Nat} (hx : x < 4294967296) (hy : y < 4294967296) (hc : c ≤ 1) :
    bits .or .u32 (bits .and .u32 (bits .xor .u32 IntKind.u32.max (x : Int)) (y : Int)) (bits .and .u32 (bits .xor .u32 IntKind.u32.max (bits .xor .u32 (x : Int) (y : Int))) (((x : Int) - y - c) % 4294967296)) / 2147483648 = ((subC x y c : Nat) : Int) := by
  have hd : ((x : Int) - y - c) % 4294967296 = (((x + 8589934592 - y - c) % 4294967296 : Nat) : Int) := by omega
  have hm : IntKind.u32.max = ((4294967295 : Nat) : Int) := by decide
  have hxy : x ^^^ y < 2 ^ 32 := Nat.xor_lt_two_pow (by omega) (by omega)
  have e1 : 4294967295 ^^^ x < 2 ^ 32 := Nat.xor_lt_two_pow (by omega) (by omega)
  have e2 : 4294967295 ^^^ (x ^^^ y) < 2 ^ 32 := Nat.xor_lt_two_pow (by omega) hxy
  rw [hd, hm, u32_xor_nat _ _ (by omega) hx, u32_xor_nat _ _ hx hy, u32_xor_nat _ _ (by omega) (by simpa using hxy), u32_and_nat _ _ (by simpa using e1) hy, u32_and_nat _ _ (by simpa using e2) (by omega),
    u32_or_nat _ _ (by simpa using Nat.and_lt_two_pow _ (show y < 2 ^ 32 by omega)) (by simpa using Nat.and_lt_two_pow _ (show (x + 8589934592 - y - c) % 4294967296 < 2 ^ 32 by omega))]
  rw [← sub32_nat hx hy hc rfl]
  omega
theorem add32I {w : World} {x y c : Int} (hx0 : 0 ≤ x) (hx : x < 4294967296) (hy0 : 0 ≤ y) (hy : y < 4294967296) (hc0 : 0 ≤ c) (hc : c ≤ 1) :
    Calls Tryz.prog 247 #[.int .u32 x, .int .u32 y, .int .u32 c] w fun e w' => e = .returned (.tuple #[.int .u32 ((x + y + c) % 4294967296), .int .u32 ((x + y + c) / 4294967296)]) ∧ w = w' := by
  go_enter Tryz.func247, Tryz.ntmps247
  go_wp2
  go_ret2
  exact ⟨rfl, rfl⟩
theorem two_eq {k : IntKind} {a a' b b' : Int} (h1 : a = a') (h2 : b = b') : Ending.returned (.tuple #[.int k a, .int k b]) = Ending.returned (.tuple #[.int k a', .int k b']) := by rw [h1, h2]
/-- What Sub32 returns. -/
def Sub32V (x y c : Nat) : Value := .tuple #[.int .u32 (((x + 8589934592 - y - c) % 4294967296 : Nat) : Int), .int .u32 ((subC x y c : Nat) : Int)]
theorem sub32W {w : World} {x y c : Nat} (hx : x < 4294967296) (hy : y < 4294967296) (hc : c ≤ 1) :
    Calls Tryz.prog 248 #[.int .u32 (x : Int), .int .u32 (y : Int), .int .u32 (c : Int)] w fun e w' => e = .returned (Sub32V x y c) ∧ w = w' := by
  have HL := Lib.hid (sub32_law hx hy hc)
  have HD := Lib.hid (show (((x : Int) - y) % 4294967296 - c) % 4294967296 = (((x + 8589934592 - y - c) % 4294967296 : Nat) : Int) by omega)
  have hs : IntKind.u32.signed = false := rfl
  go_enter Tryz.func248, Tryz.ntmps248
  go_wp2
  go_ret2
  refine ⟨?_, rfl⟩
  exact two_eq HD.out HL.out

theorem val_take_getD (l : List Nat) (k : Nat) : val (l.take (k + 1)) = val (l.take k) + 4294967296 ^ k * l.getD k 0 := by
  rcases Nat.lt_or_ge k l.length with h | h
  · exact val_take_snoc l k h
  · rw [List.take_of_length_le (by omega), List.take_of_length_le h, List.getD_eq_getElem?_getD, List.getElem?_eq_none h]; simp
theorem getD_out {l : List Nat} {k : Nat} (h : ¬ k < l.length) : l.getD k 0 = 0 := by
  rw [List.getD_eq_getElem?_getD, List.getElem?_eq_none (by omega)]; rfl
/-- The loop's arithmetic: digit k of a + b, c carried in. -/
theorem sum_step {la lb L : List Nat} {c k x y N : Nat} (hL : L.length = N + 1) (hz : ∀ j, k ≤ j → L.getD j 0 = 0) (hdL : Dig L) (hc : c ≤ 1) (hk : k < N) (hda : Dig la) (hdb : Dig lb)
    (hx : la.getD k 0 = x) (hy : lb.getD k 0 = y) (h : val L + 4294967296 ^ k * c = val (la.take k) + val (lb.take k)) :
    Dig (L.set k ((x + y + c) % 4294967296)) ∧ (x + y + c) / 4294967296 ≤ 1 ∧ (∀ j, k + 1 ≤ j → (L.set k ((x + y + c) % 4294967296)).getD j 0 = 0) ∧
      val (L.set k ((x + y + c) % 4294967296)) + 4294967296 ^ (k + 1) * ((x + y + c) / 4294967296) = val (la.take (k + 1)) + val (lb.take (k + 1)) := by
  have h1 := dig_get hda k
  have h1' := dig_get hdb k
  rw [hx] at h1
  rw [hy] at h1'
  have h2 := carry_round (L := L) (j := k) (c := c) (s := x + y) (t := x + y + c) (by omega) (by rw [hz k (Nat.le_refl _)]; omega)
  refine ⟨dig_set hdL k (by omega), by omega, fun j hj => ?_, ?_⟩
  · rw [set_getD_ne _ _ _ _ (by omega)]; exact hz j (by omega)
  · rw [h2, val_take_getD la, val_take_getD lb, hx, hy, Nat.mul_add, h]; omega
theorem sum_end {la lb L : List Nat} {c N : Nat} (hL : L.length = N + 1) (hz : ∀ j, N ≤ j → L.getD j 0 = 0) (hla : la.length ≤ N) (hlb : lb.length ≤ N)
    (h : val L + 4294967296 ^ N * c = val (la.take N) + val (lb.take N)) : val (L.set N c) = val la + val lb := by
  rw [last_carry (by omega) (hz _ (Nat.le_refl _)), h, List.take_of_length_le hla, List.take_of_length_le hlb]

theorem sum_any (w : World) (u v : Value) (la lb : List Nat) (hu : Rd w u la) (hv : Rd w v lb) (hla : la.length ≤ 1000000) (hlb : lb.length ≤ 1000000) :
    Calls Tryz.prog 180 #[u, v] w fun e w' => ∃ z, e = .returned z ∧ Own w' w.heap.size z (nf (val la + val lb)) ∧ Below w.heap.size w w' := by
  obtain ⟨a, capa, rfl, _, _, hda, hra⟩ := hu
  obtain ⟨b, capb, rfl, _, _, hdb, hrb⟩ := hv
  obtain ⟨N, hN⟩ : ∃ N, N = max la.length lb.length := ⟨_, rfl⟩
  have hNa : la.length ≤ N := by omega
  have hNb : lb.length ≤ N := by omega
  have hNN : N < la.length ∨ N = la.length ∨ N = lb.length := by omega
  have hN1 : N ≤ 1000000 := by omega
  have hM : max (la.length : Int) (lb.length : Int) = (N : Int) := by omega
  have HN := Lib.hid (show ∀ k, k < N → k < la.length ∨ k < lb.length by intro k; omega)
  clear hN hNN
  go_enter Tryz.func180, Tryz.ntmps180
  go_wp2_with (at_make; go_loud (refine make_u32 _ rfl (.tmp 17) (.tmp 17) 24 rfl Tryz.underlying24 _ _ (N + 1) rfl rfl (by omega) (by omega) (by omega) ?_); intro w1 R0 B0; clear hM)
  go_loopw [7, 8] (fun c i wr => ∃ (k cn : Nat) (L : List Nat), k ≤ N ∧ i = .int .i64 k ∧ c = .int .u32 cn ∧ cn ≤ 1 ∧ Row wr w.heap.size w.heap.size (N + 1) L ∧ Hid (L.length = N + 1) ∧ Below w.heap.size w wr ∧
        Hid (∀ j, k ≤ j → L.getD j 0 = 0) ∧ Hid (val L + 4294967296 ^ k * cn = val (la.take k) + val (lb.take k))) (fun _ i _ => N - (intOf i).toNat)
  case atStart => exact ⟨0, 0, _, Nat.zero_le _, rfl, rfl, by omega, R0, by show _ = _; simp, B0, fun j _ => getD_replicate _ _, by show _ = _; simp [val_replicate, val_nil]⟩
  case round =>
    obtain ⟨k, cn, L, hk, rfl, rfl, hcn, hR, hL, hB, hz, hv⟩ := hrel
    have hRc := hR.cap
    have hRl := hR.lt
    by_cases hlt : k < N
    · have cR := hR.cell (j := k) (by rw [hL.out]; omega)
      have fR := hR.free k
      generalize L.getD k 0 = z at *
      by_cases hka : k < la.length
      · obtain ⟨ba, offa, rfl, cA⟩ := hra.at hB hka
        have hx := dig_get hda k
        have hst := fun x y => @sum_step la lb L cn k x y N hL.out hz.out hR.dig hcn hlt hda hdb
        generalize la.getD k 0 = x at *
        by_cases hkb : k < lb.length
        · obtain ⟨bb, offb, rfl, cB⟩ := hrb.at hB hkb
          have hy := dig_get hdb k
          generalize lb.getD k 0 = y at *
          have HST := Lib.hid (hst x y rfl rfl hv.out)
          have HE1 := Lib.hid (show ((x : Int) + (y : Int) + (cn : Int)) % 4294967296 = (((x + y + cn) % 4294967296 : Nat) : Int) by omega)
          clear hst hra hrb
          go_wp2_with (go_at_call 247; refine (add32I (by omega) (by omega) (by omega) (by omega) (by omega) (by omega)).mono ?_; rintro e w' ⟨rfl, rfl⟩)
          go_roundw
          case rel =>
            obtain ⟨s1, s2, s3, s4⟩ := HST.out
            rw [HE1.out]
            exact ⟨k + 1, (x + y + cn) / 4294967296, L.set k ((x + y + cn) % 4294967296), by omega, by go_num, by go_num, s2, hR.set k (by omega), by show _ = _; rw [List.length_set]; exact hL.out, hB.setCell (Nat.le_refl _) _, s3, s4⟩
          case measure => simp [intOf]; omega
        · have HST := Lib.hid (hst x 0 rfl (getD_out hkb) hv.out)
          have HE1 := Lib.hid (show ((x : Int) + (cn : Int)) % 4294967296 = (((x + 0 + cn) % 4294967296 : Nat) : Int) by omega)
          clear hst hra hrb
          go_wp2_with (go_at_call 247; refine (add32I (by omega) (by omega) (by omega) (by omega) (by omega) (by omega)).mono ?_; rintro e w' ⟨rfl, rfl⟩)
          go_roundw
          case rel =>
            obtain ⟨s1, s2, s3, s4⟩ := HST.out
            rw [HE1.out]
            exact ⟨k + 1, (x + 0 + cn) / 4294967296, L.set k ((x + 0 + cn) % 4294967296), by omega, by go_num, by go_num, s2, hR.set k (by omega), by show _ = _; rw [List.length_set]; exact hL.out, hB.setCell (Nat.le_refl _) _, s3, s4⟩
          case measure => simp [intOf]; omega
      · have hkb : k < lb.length := by rcases HN.out k hlt with h | h <;> omega
        obtain ⟨bb, offb, rfl, cB⟩ := hrb.at hB hkb
        have hy := dig_get hdb k
        have hst := fun y => @sum_step la lb L cn k 0 y N hL.out hz.out hR.dig hcn hlt hda hdb (getD_out hka)
        generalize lb.getD k 0 = y at *
        have HST := Lib.hid (hst y rfl hv.out)
        have HE1 := Lib.hid (show ((y : Int) + (cn : Int)) % 4294967296 = (((0 + y + cn) % 4294967296 : Nat) : Int) by omega)
        clear hst hra hrb
        go_wp2_with (go_at_call 247; refine (add32I (by omega) (by omega) (by omega) (by omega) (by omega) (by omega)).mono ?_; rintro e w' ⟨rfl, rfl⟩)
        go_roundw
        case rel =>
          obtain ⟨s1, s2, s3, s4⟩ := HST.out
          rw [HE1.out]
          exact ⟨k + 1, (0 + y + cn) / 4294967296, L.set k ((0 + y + cn) % 4294967296), by omega, by go_num, by go_num, s2, hR.set k (by omega), by show _ = _; rw [List.length_set]; exact hL.out, hB.setCell (Nat.le_refl _) _, s3, s4⟩
        case measure => simp [intOf]; omega
    · obtain rfl : k = N := by omega
      have cR := hR.cell (j := k) (by rw [hL.out]; omega)
      have fR := hR.free k
      generalize L.getD k 0 = z at *
      have HV := Lib.hid (sum_end hL.out hz.out hNa hNb hv.out)
      have HR2 := hR.set k (d := cn) (by omega)
      have HLL := Lib.hid (show (L.set k cn).length = k + 1 by rw [List.length_set]; exact hL.out)
      clear hra hrb
      go_wp2_with (go_at_call 127; refine (numTrim_own _ _ _ _ (show Own _ _ _ _ from by have := HR2; unfold Row at this; rw [HLL.out] at this; exact this)).mono ?_; rintro e w2 ⟨v, rfl, ho, rfl⟩)
      go_ret
      rw [HV.out] at ho
      exact ⟨v, rfl, ho, hB.setCell (Nat.le_refl _) _⟩

theorem sub32_ge {w : World} {x y c : Int} (hx0 : 0 ≤ x) (hx : x < 4294967296) (hy0 : 0 ≤ y) (hy : y < 4294967296) (hc0 : 0 ≤ c) (hc : c ≤ 1) (h : y + c ≤ x) :
    Calls Tryz.prog 248 #[.int .u32 x, .int .u32 y, .int .u32 c] w fun e w' => e = .returned (.tuple #[.int .u32 (x - y - c), .int .u32 0]) ∧ w = w' := by
  obtain ⟨x, rfl⟩ := Int.eq_ofNat_of_zero_le hx0
  obtain ⟨y, rfl⟩ := Int.eq_ofNat_of_zero_le hy0
  obtain ⟨c, rfl⟩ := Int.eq_ofNat_of_zero_le hc0
  refine (sub32W (by omega) (by omega) (by omega)).mono ?_
  rintro e w' ⟨rfl, rfl⟩
  refine ⟨two_eq (by omega) ?_, rfl⟩
  unfold subC; rw [if_neg (by omega)]; rfl
theorem sub32_lt {w : World} {x y c : Int} (hx0 : 0 ≤ x) (hx : x < 4294967296) (hy0 : 0 ≤ y) (hy : y < 4294967296) (hc0 : 0 ≤ c) (hc : c ≤ 1) (h : x < y + c) :
    Calls Tryz.prog 248 #[.int .u32 x, .int .u32 y, .int .u32 c] w fun e w' => e = .returned (.tuple #[.int .u32 (x - y - c + 4294967296), .int .u32 1]) ∧ w = w' := by
  obtain ⟨x, rfl⟩ := Int.eq_ofNat_of_zero_le hx0
  obtain ⟨y, rfl⟩ := Int.eq_ofNat_of_zero_le hy0
  obtain ⟨c, rfl⟩ := Int.eq_ofNat_of_zero_le hc0
  refine (sub32W (by omega) (by omega) (by omega)).mono ?_
  rintro e w' ⟨rfl, rfl⟩
  refine ⟨two_eq (by omega) ?_, rfl⟩
  unfold subC; rw [if_pos (by omega)]; rfl

theorem numLess_any (w : World) (u v : Value) (la lb : List Nat) (hu : Rd w u la) (hv : Rd w v lb) (hlen : lb.length ≤ la.length) (hle : val lb ≤ val la) (hla : la.length ≤ 1000000) :
    Calls Tryz.prog 181 #[u, v] w fun e w' => ∃ z, e = .returned z ∧ Own w' w.heap.size z (nf (val la - val lb)) ∧ Below w.heap.size w w' := by
  obtain ⟨a, capa, rfl, _, _, hda, hra⟩ := hu
  obtain ⟨b, capb, rfl, _, _, hdb, hrb⟩ := hv
  have HLE := Lib.hid hle
  clear hle
  go_enter Tryz.func181, Tryz.ntmps181
  go_wp2_with (at_make; go_loud (refine make_u32 _ rfl (.tmp 10) (.tmp 10) 24 rfl Tryz.underlying24 _ _ la.length rfl rfl (by omega) (by omega) (by omega) ?_); intro w1 R0 B0)
  go_loopw [6, 14] (fun c i wr => ∃ (k cn : Nat) (L : List Nat), k ≤ la.length ∧ i = .int .i64 k ∧ c = .int .u32 cn ∧ cn ≤ 1 ∧ Row wr w.heap.size w.heap.size la.length L ∧ Hid (L.length = la.length) ∧ Below w.heap.size w wr ∧
      Hid (∀ j, k ≤ j → L.getD j 0 = 0) ∧ Hid (val L + val (lb.take k) = val (la.take k) + 4294967296 ^ k * cn)) (fun _ i _ => la.length - (intOf i).toNat)
  case atStart => exact ⟨0, 0, _, Nat.zero_le _, rfl, rfl, by omega, R0, by show _ = _; simp, B0, fun j _ => getD_replicate _ _, by show _ = _; simp [val_replicate, val_nil]⟩
  case round =>
    obtain ⟨k, cn, L, hk, rfl, rfl, hcn, hR, hL, hB, hz, hv⟩ := hrel
    have hRc := hR.cap
    have hRl := hR.lt
    by_cases hlt : k < la.length
    · obtain ⟨ba, offa, rfl, cA⟩ := hra.at hB hlt
      have hst := fun x y d c' => @sub_step la lb L cn k d c' x y hL.out hz.out hlt
      have cR := hR.cell (j := k) (by rw [hL.out]; omega)
      have fR := hR.free k
      have hx := dig_get hda k
      generalize hgx : la.getD k 0 = x at *
      have hst := fun y d c' => hst x y d c' rfl hv.out
      clear hgx
      generalize L.getD k 0 = z at *
      by_cases hltb : k < lb.length
      · obtain ⟨bb, offb, rfl, cB⟩ := hrb.at hB hltb
        have hy := dig_get hdb k
        generalize hgy : lb.getD k 0 = y at *
        have hst := fun d c' => hst y d c' (.inl ⟨hltb, rfl⟩)
        clear hgy
        by_cases hge : y + cn ≤ x
        · have HST := Lib.hid (hst (x - y - cn) 0 (by omega))
          clear hst hra hrb
          go_wp2_with (go_at_call 248; refine (sub32_ge (by omega) (by omega) (by omega) (by omega) (by omega) (by omega) (by omega)).mono ?_; rintro e w' ⟨rfl, rfl⟩)
          go_roundw
          case rel =>
            obtain ⟨s1, s2⟩ := HST.out
            rw [show ((x : Int) - (y : Int) - (cn : Int)) = ((x - y - cn : Nat) : Int) by omega]
            exact ⟨k + 1, 0, _, by omega, by go_num, by go_num, by omega, hR.set k (by omega), by show _ = _; rw [List.length_set]; exact hL.out, hB.setCell (Nat.le_refl _) _, s1, s2⟩
          case measure => simp [intOf]; omega
        · have HST := Lib.hid (hst (x + 4294967296 - y - cn) 1 (by omega))
          clear hst hra hrb
          go_wp2_with (go_at_call 248; refine (sub32_lt (by omega) (by omega) (by omega) (by omega) (by omega) (by omega) (by omega)).mono ?_; rintro e w' ⟨rfl, rfl⟩)
          go_roundw
          case rel =>
            obtain ⟨s1, s2⟩ := HST.out
            rw [show ((x : Int) - (y : Int) - (cn : Int) + 4294967296) = ((x + 4294967296 - y - cn : Nat) : Int) by omega]
            exact ⟨k + 1, 1, _, by omega, by go_num, by go_num, by omega, hR.set k (by omega), by show _ = _; rw [List.length_set]; exact hL.out, hB.setCell (Nat.le_refl _) _, s1, s2⟩
          case measure => simp [intOf]; omega
      · have hst := fun d c' => hst 0 d c' (.inr ⟨by omega, rfl⟩)
        by_cases hge : cn ≤ x
        · have HST := Lib.hid (hst (x - 0 - cn) 0 (by omega))
          clear hst hra hrb
          go_wp2_with (go_at_call 248; refine (sub32_ge (by omega) (by omega) (by omega) (by omega) (by omega) (by omega) (by omega)).mono ?_; rintro e w' ⟨rfl, rfl⟩)
          go_roundw
          case rel =>
            obtain ⟨s1, s2⟩ := HST.out
            first | rw [show ((x : Int) - (cn : Int)) = ((x - 0 - cn : Nat) : Int) by omega] | rw [show ((x : Int) - 0 - (cn : Int)) = ((x - 0 - cn : Nat) : Int) by omega]
            exact ⟨k + 1, 0, _, by omega, by go_num, by go_num, by omega, hR.set k (by omega), by show _ = _; rw [List.length_set]; exact hL.out, hB.setCell (Nat.le_refl _) _, s1, s2⟩
          case measure => simp [intOf]; omega
        · have HST := Lib.hid (hst (x + 4294967296 - 0 - cn) 1 (by omega))
          clear hst hra hrb
          go_wp2_with (go_at_call 248; refine (sub32_lt (by omega) (by omega) (by omega) (by omega) (by omega) (by omega) (by omega)).mono ?_; rintro e w' ⟨rfl, rfl⟩)
          go_roundw
          case rel =>
            obtain ⟨s1, s2⟩ := HST.out
            first | rw [show ((x : Int) - (cn : Int) + 4294967296) = ((x + 4294967296 - 0 - cn : Nat) : Int) by omega] | rw [show ((x : Int) - 0 - (cn : Int) + 4294967296) = ((x + 4294967296 - 0 - cn : Nat) : Int) by omega]
            exact ⟨k + 1, 1, _, by omega, by go_num, by go_num, by omega, hR.set k (by omega), by show _ = _; rw [List.length_set]; exact hL.out, hB.setCell (Nat.le_refl _) _, s1, s2⟩
          case measure => simp [intOf]; omega
    · have hkl : k = la.length := by omega
      subst hkl
      have HV := Lib.hid (sub_end hR.dig hL.out hlen HLE.out hv.out)
      have HR2 := hR
      clear hra hrb
      go_wp2_with (go_at_call 127; refine (numTrim_own _ _ _ _ (show Own _ _ _ _ from by have := HR2; unfold Row at this; rw [hL.out] at this; exact this)).mono ?_; rintro e w2 ⟨v, rfl, ho, rfl⟩)
      go_ret
      rw [HV.out] at ho
      exact ⟨v, rfl, ho, hB⟩

theorem product_any (w : World) (u v : Value) (xs ys : List Nat) (hu : Rd w u xs) (hv : Rd w v ys) (hx1 : xs.length ≤ 1000000) (hy1 : ys.length ≤ 1000000) :
    Calls Tryz.prog 62 #[u, v] w fun e w' => ∃ z, e = .returned z ∧ Own w' w.heap.size z (nf (val xs * val ys)) ∧ Below w.heap.size w w' := by
  obtain ⟨a, capa, rfl, _, _, hda, hra⟩ := hu
  obtain ⟨b, capb, rfl, _, _, hdb, hrb⟩ := hv
  by_cases h11 : xs.length = 1 ∧ ys.length = 1
  · obtain ⟨h1, h2⟩ := h11
    obtain ⟨x, rfl⟩ : ∃ x, xs = [x] := List.length_eq_one_iff.1 h1
    obtain ⟨y, rfl⟩ : ∃ y, ys = [y] := List.length_eq_one_iff.1 h2
    clear h1 h2 hx1 hy1
    obtain ⟨ba, offa, rfl, cA⟩ := hra (by simp)
    obtain ⟨bb, offb, rfl, cB⟩ := hrb (by simp)
    have cA := cA 0 (by simp)
    have cB := cB 0 (by simp)
    have hx := hda x (by simp)
    have hy := hdb y (by simp)
    have hm := mul_int hx hy
    have HW := Lib.hid (show IntKind.u64.wrap (IntKind.u64.wrap (x : Int) * IntKind.u64.wrap (y : Int)) = ((x * y : Nat) : Int) by
      rw [show IntKind.u64.wrap (x : Int) = x by rw [IntKind.wrap_u64]; omega, show IntKind.u64.wrap (y : Int) = y by rw [IntKind.wrap_u64]; omega, IntKind.wrap_u64, Int.natCast_mul, Int.emod_eq_of_lt hm.1 (by omega)])
    have HL := Lib.hid (show x * y < 18446744073709551616 by have := hm.2; rw [← Int.natCast_mul] at this; omega)
    have hvx : val [x] * val [y] = x * y := by simp [val_cons, val_nil]
    rw [hvx]
    clear hra hrb hda hdb hvx
    simp only [List.getD_eq_getElem?_getD, List.getElem?_cons_zero, Option.getD_some, Nat.add_zero, List.length_cons, List.length_nil, Nat.zero_add] at cA cB ⊢
    go_enter Tryz.func62, Tryz.ntmps62
    go_wp2_with fail
    go_region_held3 (fun w' => w'.cell? ⟨ba, offa, none⟩ = some (.int .u32 (x : Int)) ∧ w'.cell? ⟨bb, offb, none⟩ = some (.int .u32 (y : Int)))
      (first | go_keep | (go_split_ands; exact ⟨keepc (by assumption) (by assumption), keepc (by assumption) (by assumption)⟩))
      (first
      | (go_at_call 126; rw [HW.out]; refine (word_any _ (x * y) HL.out).mono ?_; rintro e w' ⟨z, rfl, hz, hb⟩))
    go_wp2
    go_ret
    exact ⟨_, rfl, hz, blw_trans (blw_drew (Below.refl _ _)) hb⟩
  · have hb : ((xs.length : Int) == 1) = false ∨ ((xs.length : Int) == 1) = true ∧ ((ys.length : Int) == 1) = false := by
      simp only [beq_eq_false_iff_ne, beq_iff_eq]; omega
    clear h11
    go_enter Tryz.func62, Tryz.ntmps62
    rcases hb with hb1 | ⟨hb1, hb2⟩
    all_goals
      go_wp2_with (at_make; go_loud (refine make_u32 _ rfl (.tmp 34) (.tmp 34) 24 rfl Tryz.underlying24 _ _ (xs.length + ys.length) rfl rfl (by omega) (by omega) (by omega) ?_); intro w1 R0 B0)
      go_loopw [38] (fun i wr => ∃ (k : Nat) (L : List Nat), k ≤ xs.length ∧ i = .int .i64 k ∧ Row wr w.heap.size w.heap.size (xs.length + ys.length) L ∧ Hid (L.length = xs.length + ys.length) ∧ Below w.heap.size w wr ∧
          Hid (∀ j, k + ys.length ≤ j → L.getD j 0 = 0) ∧ Hid (val L = val (xs.take k) * val ys)) (fun i _ => xs.length - (intOf i).toNat)
      case atStart => exact ⟨0, _, Nat.zero_le _, rfl, R0, by show _ = _; simp, B0, fun j _ => getD_replicate _ _, by show _ = _; simp [val_replicate, val_nil]⟩
      case round =>
        obtain ⟨i, L0, hi, rfl, hR0, hL0, hB0, hz0, hv0⟩ := hrel
        obtain ⟨wo, hwo⟩ : ∃ wo : World, wo = wr := ⟨_, rfl⟩
        subst hwo
        by_cases hlt : i < xs.length
        · obtain ⟨ba, offa, rfl, cA⟩ := hra.at hB0 hlt
          have hx := dig_get hda i
          have HX := Lib.hid (val_take_snoc xs i hlt)
          generalize xs.getD i 0 = x at *
          have hrow0 := hR0.lt
          go_wp2
          go_loopw [8, 45] (fun c i' wr => ∃ (k cn : Nat) (L : List Nat), k ≤ ys.length ∧ i' = .int .i64 k ∧ c = .int .u64 cn ∧ cn < 4294967296 ∧ Row wr w.heap.size w.heap.size (xs.length + ys.length) L ∧ Hid (L.length = xs.length + ys.length) ∧ Below w.heap.size w wr ∧
              Hid (∀ j, i + ys.length ≤ j → L.getD j 0 = 0) ∧ Hid (val L + 4294967296 ^ (i + k) * cn = val (xs.take i) * val ys + 4294967296 ^ i * (x * val (ys.take k)))) (fun _ i' _ => ys.length - (intOf i').toNat)
          case atStart => exact ⟨0, 0, L0, Nat.zero_le _, rfl, rfl, by omega, hR0, hL0, hB0, hz0, by show _ = _; rw [hv0.out]; simp [val_nil]⟩
          case round =>
            obtain ⟨k, cn, L, hk, rfl, rfl, hcn, hR, hL, hB, hz, hv⟩ := hrel
            have hRl := hR.lt
            have hRc := hR.cap
            by_cases hltb : k < ys.length
            · obtain ⟨bb, offb, rfl, cB⟩ := hrb.at hB hltb
              have hy := dig_get hdb k
              have hst := fun y => @mul_step L (val (xs.take i) * val ys) i k cn x y (val (ys.take k)) ys.length (by rw [hL.out]; omega) hltb hR.dig hx
              have hvt := val_take_snoc ys k hltb
              generalize ys.getD k 0 = y at *
              have cR := hR.cell (j := i + k) (by rw [hL.out]; omega)
              have fR := hR.free (i + k)
              have hdz := dig_get hR.dig (i + k)
              have hst := hst y hy hcn hz.out (L.getD (i + k) 0) rfl hv.out
              generalize L.getD (i + k) 0 = z at *
              rw [← hvt] at hst
              have HST := Lib.hid hst
              have hm := mul_int hx hy
              clear hst hvt hra hrb
              go_wp2
              go_roundw
              case rel =>
                obtain ⟨s1, s2, s3, s4⟩ := HST.out
                have e0 : (x : Int) * (y : Int) + (z : Int) + (cn : Int) = ((cn + x * y + z : Nat) : Int) := by
                  rw [Int.natCast_add, Int.natCast_add, Int.natCast_mul]; omega
                rw [e0]
                have e1 : ((cn + x * y + z : Nat) : Int) % 4294967296 = (((cn + x * y + z) % 4294967296 : Nat) : Int) := by omega
                rw [e1]
                exact ⟨k + 1, (cn + x * y + z) / 4294967296, _, by omega, by go_num, by go_num, s2, hR.set (i + k) (by omega), by show _ = _; rw [List.length_set]; exact hL.out, hB.setCell (Nat.le_refl _) _, s3, s4⟩
              case measure => simp [intOf]; omega
            · have hkl : k = ys.length := by omega
              subst hkl
              have cR := hR.cell (j := i + ys.length) (by rw [hL.out]; omega)
              have fR := hR.free (i + ys.length)
              generalize L.getD (i + ys.length) 0 = z at *
              have hv2 := hv.out
              rw [List.take_length] at hv2
              have hst := mul_last (by rw [hL.out]; omega) hz.out hv2
              rw [← HX.out] at hst
              have HST := Lib.hid hst
              clear hst hv2 hra hrb
              go_wp2
              go_roundw
              case rel =>
                obtain ⟨s1, s2⟩ := HST.out
                exact ⟨i + 1, _, by omega, by go_num, hR.set (i + ys.length) hcn, by show _ = _; rw [List.length_set]; exact hL.out, hB.setCell (Nat.le_refl _) _, s1, s2⟩
              case measure => simp [intOf]; omega
        · have hil : i = xs.length := by omega
          subst hil
          have hv2 := hv0.out
          rw [List.take_length] at hv2
          have HV := Lib.hid hv2
          clear hv2 hra hrb
          go_wp2_with (go_at_call 127; refine (numTrim_own _ _ _ _ (show Own _ _ _ _ from by have := hR0; unfold Row at this; rw [hL0.out] at this; exact this)).mono ?_; rintro e w2 ⟨v, rfl, ho, rfl⟩)
          go_ret
          rw [HV.out] at ho
          exact ⟨v, rfl, ho, hB0⟩
end Go.Proofs.YtdlnoeegboapkaaGreatDoor

/- The reference's numbers (package bspregionnum): the contracts of its simple functions in the words of XWord. -/
namespace Go.Proofs.YtdlnoeegboapkaaGreatDoor
open Go.RowKit
set_option maxRecDepth 100000
set_option maxHeartbeats 40000000
set_option synthInstance.maxSize 100000
set_option synthInstance.maxHeartbeats 1000000

section
variable {w : World} {u v : Value} {m n km kn : Nat}
theorem numSumW (hu : Nn w u m km) (hv : Nn w v n kn) (hk : km ≤ 900000) (hk2 : kn ≤ 900000) : Calls Tryz.prog 180 #[u, v] w (RetN w (m + n) (max km kn + 1)) := by
  obtain ⟨h1, l1⟩ := hu
  obtain ⟨h2, l2⟩ := hv
  have hc := sum_any _ _ _ _ _ h1 h2 (by omega) (by omega)
  rw [val_nf, val_nf] at hc
  refine hc.mono ?_
  rintro e w' ⟨z, rfl, hz, hb⟩
  exact .mk (.of_own hz (len_addM l1 l2)) hb
theorem numLessW (hu : Nn w u m km) (hv : Nn w v n kn) (hk : km ≤ 900000) (h : n ≤ m) : Calls Tryz.prog 181 #[u, v] w (RetN w (m - n) km) := by
  obtain ⟨h1, l1⟩ := hu
  obtain ⟨h2, l2⟩ := hv
  have hc := numLess_any _ _ _ _ _ h1 h2 (nf_len_mono h) (by rw [val_nf, val_nf]; exact h) (by omega)
  rw [val_nf, val_nf] at hc
  refine hc.mono ?_
  rintro e w' ⟨z, rfl, hz, hb⟩
  exact .mk (.of_own hz (len_le (Nat.sub_le _ _) l1)) hb
theorem numProductW (hu : Nn w u m km) (hv : Nn w v n kn) (hk : km ≤ 900000) (hk2 : kn ≤ 900000) : Calls Tryz.prog 62 #[u, v] w (RetN w (m * n) (km + kn)) := by
  obtain ⟨h1, l1⟩ := hu
  obtain ⟨h2, l2⟩ := hv
  have hc := product_any _ _ _ _ _ h1 h2 (by omega) (by omega)
  rw [val_nf, val_nf] at hc
  refine hc.mono ?_
  rintro e w' ⟨z, rfl, hz, hb⟩
  exact .mk (.of_own hz (len_mul l1 l2 (Nat.le_refl _))) hb
theorem numWordW {x : Nat} (hx : x < 18446744073709551616) : Calls Tryz.prog 126 #[.int .u64 (x : Int)] w (RetN w x 2) := by
  refine (word_any _ x hx).mono ?_
  rintro e w' ⟨z, rfl, hz, hb⟩
  exact .mk (.of_own hz (nf_len_le (by omega))) hb
theorem numWordI {x : Int} (h0 : 0 ≤ x) (h : x < 18446744073709551616) : Calls Tryz.prog 126 #[.int .u64 x] w (RetN w x.natAbs 2) := by
  obtain ⟨n, rfl⟩ := Int.eq_ofNat_of_zero_le h0
  exact numWordW (by omega)
theorem len_shl {m k c : Nat} (h : (nf m).length ≤ c) : (nf (m * 2 ^ k)).length ≤ c + (k / 32 + 1) := by
  refine len_mul h (nf_len_le ?_) (Nat.le_refl _)
  rw [show (4294967296 : Nat) = 2 ^ 32 by decide, ← Nat.pow_mul]
  exact Nat.pow_lt_pow_right (by omega) (by omega)
theorem numLeftW {k : Nat} (hu : Nn w u m km) (hkm : km ≤ 900000) (hk : k ≤ 10000000) : Calls Tryz.prog 260 #[u, .int .i64 (k : Int)] w (RetN w (m * 2 ^ k) (km + (k / 32 + 1))) := by
  obtain ⟨h1, l1⟩ := hu
  refine (left_any _ _ m k h1 (by omega) hk).mono ?_
  rintro e w' ⟨z, rfl, hz, hb⟩
  exact .mk (.of_own hz (len_shl l1)) hb
theorem numRightW {k : Nat} (hu : Nn w u m km) (hkm : km ≤ 900000) (hk : k < 9223372036854775808) : Calls Tryz.prog 261 #[u, .int .i64 (k : Int)] w (RetN w (m / 2 ^ k) km) := by
  obtain ⟨h1, l1⟩ := hu
  refine (right_any _ _ m k h1 (by omega) hk).mono ?_
  rintro e w' ⟨z, rfl, hz, hb⟩
  exact .mk (.of_own hz (len_le (Nat.div_le_self _ _) l1)) hb
theorem numOneW : Calls Tryz.prog 73 #[] w (RetN w 1 1) := by
  go_enter Tryz.func73, Tryz.ntmps73
  go_wp2
  go_ret
  exact ⟨_, _, _, rfl, Nn.lit1, blw_one _ _⟩
end
theorem u64_pair {a b : Int} (h : a = b) : Ending.returned (.tuple #[.int .u64 a, .bool true]) = Ending.returned (.tuple #[.int .u64 b, .bool true]) := by rw [h]
/-- word returns the value of a number of at most two digits. -/
theorem numWord2W {w : World} {u : Value} {m km : Nat} (hu : Nn w u m km) : Calls Tryz.prog 196 #[u] w fun e w' => e = .returned (uintV m) ∧ ∃ j, w' = w.drewN j := by
  obtain ⟨⟨a, cap, rfl, hc, hcm, hd, hr⟩, hl⟩ := hu
  rcases nf_cases m with ⟨hn, hl⟩ | ⟨d0, b0, hn, hl⟩ | ⟨d0, d1, b0, b1, hn, hl⟩ | ⟨hn, hl⟩
  · rw [hl] at hr hc ⊢
    have HN := Lib.hid (show uintV m = .tuple #[.int .u64 0, .bool true] by rw [hn]; exact uintV_lt (by omega))
    clear hl hn hd hr
    go_enter Tryz.func196, Tryz.ntmps196
    go_wp2
    go_ret2
    exact ⟨by rw [HN.out]; rfl, 0, rfl⟩
  · rw [hl] at hr hc ⊢
    obtain ⟨b, off, rfl, hcell⟩ := hr (by simp)
    have c0 := hcell 0 (by simp)
    have HN := Lib.hid (show uintV m = .tuple #[.int .u64 (d0 : Int), .bool true] by rw [hn]; exact uintV_lt (by omega))
    simp only [List.length_cons, List.length_nil, Nat.reduceAdd, List.getD_eq_getElem?_getD, List.getElem?_cons_zero, Option.getD_some, Nat.add_zero] at c0 hc ⊢
    clear hcell hn hl hr hd
    go_enter Tryz.func196, Tryz.ntmps196
    go_wp2
    go_ret2
    exact ⟨by rw [HN.out]; rfl, 0, rfl⟩
  · rw [hl] at hr hc ⊢
    obtain ⟨b, off, rfl, hcell⟩ := hr (by simp)
    have c0 := hcell 0 (by simp)
    have c1 := hcell 1 (by simp)
    have HN := Lib.hid (show uintV m = .tuple #[.int .u64 ((d0 : Int) + 4294967296 * (d1 : Int)), .bool true] by rw [hn, uintV_lt (by omega)]; rfl)
    simp only [List.length_cons, List.length_nil, Nat.reduceAdd, List.getD_eq_getElem?_getD, List.getElem?_cons_zero, List.getElem?_cons_succ, Option.getD_some, Nat.add_zero] at c0 c1 hc ⊢
    have ho2 := high_or d0 d1 b0 b1
    have HO := Lib.hid ho2
    clear hcell hn hl hr hd ho2
    go_enter Tryz.func196, Tryz.ntmps196
    go_wp2
    go_quiet (fail)
    go_wp2
    go_ret2
    refine ⟨?_, _, rfl⟩
    rw [HN.out]
    exact u64_pair HO.out
  · have HN := Lib.hid (uintV_ge hn)
    generalize (nf m).length = n at *
    have h0 : ((n : Int) == 0) = false := by rw [beq_eq_false_iff_ne]; omega
    have h1 : ((n : Int) == 1) = false := by rw [beq_eq_false_iff_ne]; omega
    have h2 : ((n : Int) == 2) = false := by rw [beq_eq_false_iff_ne]; omega
    clear hn hr hd
    go_enter Tryz.func196, Tryz.ntmps196
    go_wp2
    go_ret2
    exact ⟨by rw [HN.out]; rfl, 0, rfl⟩
end Go.Proofs.YtdlnoeegboapkaaGreatDoor
