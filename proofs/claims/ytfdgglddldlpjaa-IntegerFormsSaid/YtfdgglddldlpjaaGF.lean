/-
  Texts of this claim, joined: NumOps, NumW, NumDiv, NumDiv2, Call, Cls, NumGcd, Int3.
-/
import Derived.Test.YtfdgglddldlpjaaGE
import Derived.Laws.BitsAllLaws
import Derived.Test.YtfdgglddldlpjaaGB
import Derived.Test.YtfdgglddldlpjaaGA
import Derived.Deep.AppendLies
import Derived.Deep.RegionHeld3
/- Contracts of the reference's Sum, Less and Product (package bspregionnum), and of bits.Add32, bits.Sub32. -/
namespace Go.Proofs.Ytfdgglddldlpjaa
open Go.RowKit
set_option maxRecDepth 100000
set_option maxHeartbeats 40000000
set_option synthInstance.maxSize 100000
set_option synthInstance.maxHeartbeats 1000000
theorem tb31 {x : Nat} (h : x < 4294967296) : x.testBit 31 = decide (2147483648 ≤ x) := by
  rw [Nat.testBit_eq_decide_div_mod_eq, decide_eq_decide]; omega
theorem shr31 {v : Nat} (h : v < 4294967296) : v / 2147483648 = if v.testBit 31 then 1 else 0 := by
  rw [tb31 h]
  by_cases hv : 2147483648 ≤ v
  · simp [hv]; omega
  · simp [hv]; omega
def subC (x y c : Nat) : Nat := if x < y + c then 1 else 0
theorem sub32_nat {x y c d : Nat} (hx : x < 4294967296) (hy : y < 4294967296) (hc : c ≤ 1) (hd : d = (x + 8589934592 - y - c) % 4294967296) :
    (((4294967295 ^^^ x) &&& y) ||| ((4294967295 ^^^ (x ^^^ y)) &&& d)) / 2147483648 = subC x y c := by
  have hd2 : d < 4294967296 := by omega
  have h1 : ((4294967295 ^^^ x) &&& y) < 2 ^ 32 := Nat.and_lt_two_pow _ (by omega)
  have h2 : ((4294967295 ^^^ (x ^^^ y)) &&& d) < 2 ^ 32 := Nat.and_lt_two_pow _ (by omega)
  have h3 := Nat.or_lt_two_pow h1 h2
  rw [shr31 (by simpa using h3)]
  rw [Nat.testBit_or, Nat.testBit_and, Nat.testBit_and, Nat.testBit_xor, Nat.testBit_xor, Nat.testBit_xor, tb31 hx, tb31 hy, tb31 hd2, show (4294967295 : Nat).testBit 31 = true by decide]
  unfold subC
  by_cases a : 2147483648 ≤ x <;> by_cases b : 2147483648 ≤ y <;> by_cases e : 2147483648 ≤ d <;> simp [a, b, e] <;> omega
theorem sub32_law {x y c : Nat} (hx : x < 4294967296) (hy : y < 4294967296) (hc : c ≤ 1) :
    bits .or .u32 (bits .and .u32 (bits .xor .u32 IntKind.u32.max (x : Int)) (y : Int)) (bits .and .u32 (bits .xor .u32 IntKind.u32.max (bits .xor .u32 (x : Int) (y : Int))) (((x : Int) - y - c) % 4294967296)) / 2147483648 = ((subC x y c : Nat) : Int) := by
  have hd : ((x : Int) - y - c) % 4294967296 = (((x + 8589934592 - y - c) % 4294967296 : Nat) : Int) := by omega
  have hm : IntKind.u32.max = ((4294967295 : Nat) : Int) := by decide
  have hxy : x ^^^ y < 2 ^ 32 := Nat.xor_lt_two_pow (by omega) (by omega)
  have e1 : 4294967295 ^^^ x < 2 ^ 32 := Nat.xor_lt_two_pow (by omega) (by omega)
  have e2 : 4294967295 ^^^ (x ^^^ y) < 2 ^ 32 := Nat.xor_lt_two_pow (by omega) hxy
  rw [hd, hm, u32_xor_nat _ _ (by omega) hx, u32_xor_nat _ _ hx hy, u32_xor_nat _ _ (by omega) (by simpa using hxy), u32_and_nat _ _ (by simpa using e1) hy, u32_and_nat _ _ (by simpa using e2) (by omega),
    u32_or_nat _ _ (by simpa using Nat.and_lt_two_pow _ (show y < 2 ^ 32 by omega)) (by simpa using Nat.and_lt_two_pow _ (show (x + 8589934592 - y - c) % 4294967296 < 2 ^ 32 by omega))]
  rw [← sub32_nat hx hy hc rfl]
  omega
theorem add32I {w : World} {x y c : Int} (hx0 : 0 ≤ x) (hx : x < 4294967296) (hy0 : 0 ≤ y) (hy : y < 4294967296) (hc0 : 0 ≤ c) (hc : c ≤ 1) :
    Calls Try.prog 52 #[.int .u32 x, .int .u32 y, .int .u32 c] w fun e w' => e = .returned (.tuple #[.int .u32 ((x + y + c) % 4294967296), .int .u32 ((x + y + c) / 4294967296)]) ∧ w = w' := by
  go_enter Try.func52, Try.ntmps52
  go_wp2
  go_ret2
  exact ⟨rfl, rfl⟩
theorem two_eq {k : IntKind} {a a' b b' : Int} (h1 : a = a') (h2 : b = b') : Ending.returned (.tuple #[.int k a, .int k b]) = Ending.returned (.tuple #[.int k a', .int k b']) := by rw [h1, h2]
/-- What Sub32 returns. -/
def Sub32V (x y c : Nat) : Value := .tuple #[.int .u32 (((x + 8589934592 - y - c) % 4294967296 : Nat) : Int), .int .u32 ((subC x y c : Nat) : Int)]
theorem sub32W {w : World} {x y c : Nat} (hx : x < 4294967296) (hy : y < 4294967296) (hc : c ≤ 1) :
    Calls Try.prog 54 #[.int .u32 (x : Int), .int .u32 (y : Int), .int .u32 (c : Int)] w fun e w' => e = .returned (Sub32V x y c) ∧ w = w' := by
  have HL := Lib.hid (sub32_law hx hy hc)
  have HD := Lib.hid (show (((x : Int) - y) % 4294967296 - c) % 4294967296 = (((x + 8589934592 - y - c) % 4294967296 : Nat) : Int) by omega)
  have hs : IntKind.u32.signed = false := rfl
  go_enter Try.func54, Try.ntmps54
  go_wp2
  go_ret2
  refine ⟨?_, rfl⟩
  exact two_eq HD.out HL.out

theorem val_take_getD (l : List Nat) (k : Nat) : val (l.take (k + 1)) = val (l.take k) + 4294967296 ^ k * l.getD k 0 := by
  rcases Nat.lt_or_ge k l.length with h | h
  · exact val_take_snoc l k h
  · rw [List.take_of_length_le (by omega), List.take_of_length_le h, List.getD_eq_getElem?_getD, List.getElem?_eq_none h]; simp
theorem getD_out {l : List Nat} {k : Nat} (h : ¬ k < l.length) : l.getD k 0 = 0 := by
  rw [List.getD_eq_getElem?_getD, List.getElem?_eq_none (by omega)]; rfl
/-- The loop's arithmetic: digit k of a + b, c carried in. -/
theorem sum_step {la lb L : List Nat} {c k x y N : Nat} (hL : L.length = N + 1) (hz : ∀ j, k ≤ j → L.getD j 0 = 0) (hdL : Dig L) (hc : c ≤ 1) (hk : k < N) (hda : Dig la) (hdb : Dig lb)
    (hx : la.getD k 0 = x) (hy : lb.getD k 0 = y) (h : val L + 4294967296 ^ k * c = val (la.take k) + val (lb.take k)) :
    Dig (L.set k ((x + y + c) % 4294967296)) ∧ (x + y + c) / 4294967296 ≤ 1 ∧ (∀ j, k + 1 ≤ j → (L.set k ((x + y + c) % 4294967296)).getD j 0 = 0) ∧
      val (L.set k ((x + y + c) % 4294967296)) + 4294967296 ^ (k + 1) * ((x + y + c) / 4294967296) = val (la.take (k + 1)) + val (lb.take (k + 1)) := by
  have h1 := dig_get hda k
  have h1' := dig_get hdb k
  rw [hx] at h1
  rw [hy] at h1'
  have h2 := carry_round (L := L) (j := k) (c := c) (s := x + y) (t := x + y + c) (by omega) (by rw [hz k (Nat.le_refl _)]; omega)
  refine ⟨dig_set hdL k (by omega), by omega, fun j hj => ?_, ?_⟩
  · rw [set_getD_ne _ _ _ _ (by omega)]; exact hz j (by omega)
  · rw [h2, val_take_getD la, val_take_getD lb, hx, hy, Nat.mul_add, h]; omega
theorem sum_end {la lb L : List Nat} {c N : Nat} (hL : L.length = N + 1) (hz : ∀ j, N ≤ j → L.getD j 0 = 0) (hla : la.length ≤ N) (hlb : lb.length ≤ N)
    (h : val L + 4294967296 ^ N * c = val (la.take N) + val (lb.take N)) : val (L.set N c) = val la + val lb := by
  rw [last_carry (by omega) (hz _ (Nat.le_refl _)), h, List.take_of_length_le hla, List.take_of_length_le hlb]

theorem sum_any (w : World) (u v : Value) (la lb : List Nat) (hu : Rd w u la) (hv : Rd w v lb) (hla : la.length ≤ 1000000) (hlb : lb.length ≤ 1000000) :
    Calls Try.prog 41 #[u, v] w fun e w' => ∃ z, e = .returned z ∧ Own w' w.heap.size z (nf (val la + val lb)) ∧ Below w.heap.size w w' := by
  obtain ⟨a, capa, rfl, _, _, hda, hra⟩ := hu
  obtain ⟨b, capb, rfl, _, _, hdb, hrb⟩ := hv
  obtain ⟨N, hN⟩ : ∃ N, N = max la.length lb.length := ⟨_, rfl⟩
  have hNa : la.length ≤ N := by omega
  have hNb : lb.length ≤ N := by omega
  have hNN : N < la.length ∨ N = la.length ∨ N = lb.length := by omega
  have hN1 : N ≤ 1000000 := by omega
  have hM : max (la.length : Int) (lb.length : Int) = (N : Int) := by omega
  have HN := Lib.hid (show ∀ k, k < N → k < la.length ∨ k < lb.length by intro k; omega)
  clear hN hNN
  go_enter Try.func41, Try.ntmps41
  go_wp2_with (at_make; go_loud (refine make_u32 _ rfl (.tmp 17) (.tmp 17) 22 rfl Try.underlying22 _ _ (N + 1) rfl rfl (by omega) (by omega) (by omega) ?_); intro w1 R0 B0; clear hM)
  go_loopw [7, 8] (fun c i wr => ∃ (k cn : Nat) (L : List Nat), k ≤ N ∧ i = .int .i64 k ∧ c = .int .u32 cn ∧ cn ≤ 1 ∧ Row wr w.heap.size w.heap.size (N + 1) L ∧ Hid (L.length = N + 1) ∧ Below w.heap.size w wr ∧
        Hid (∀ j, k ≤ j → L.getD j 0 = 0) ∧ Hid (val L + 4294967296 ^ k * cn = val (la.take k) + val (lb.take k))) (fun _ i _ => N - (intOf i).toNat)
  case atStart => exact ⟨0, 0, _, Nat.zero_le _, rfl, rfl, by omega, R0, by show _ = _; simp, B0, fun j _ => getD_replicate _ _, by show _ = _; simp [val_replicate, val_nil]⟩
  case round =>
    obtain ⟨k, cn, L, hk, rfl, rfl, hcn, hR, hL, hB, hz, hv⟩ := hrel
    have hRc := hR.cap
    have hRl := hR.lt
    by_cases hlt : k < N
    · have cR := hR.cell (j := k) (by rw [hL.out]; omega)
      have fR := hR.free k
      generalize L.getD k 0 = z at *
      by_cases hka : k < la.length
      · obtain ⟨ba, offa, rfl, cA⟩ := hra.at hB hka
        have hx := dig_get hda k
        have hst := fun x y => @sum_step la lb L cn k x y N hL.out hz.out hR.dig hcn hlt hda hdb
        generalize la.getD k 0 = x at *
        by_cases hkb : k < lb.length
        · obtain ⟨bb, offb, rfl, cB⟩ := hrb.at hB hkb
          have hy := dig_get hdb k
          generalize lb.getD k 0 = y at *
          have HST := Lib.hid (hst x y rfl rfl hv.out)
          have HE1 := Lib.hid (show ((x : Int) + (y : Int) + (cn : Int)) % 4294967296 = (((x + y + cn) % 4294967296 : Nat) : Int) by omega)
          clear hst hra hrb
          go_wp2_with (go_at_call 52; refine (add32I (by omega) (by omega) (by omega) (by omega) (by omega) (by omega)).mono ?_; rintro e w' ⟨rfl, rfl⟩)
          go_roundw
          case rel =>
            obtain ⟨s1, s2, s3, s4⟩ := HST.out
            rw [HE1.out]
            exact ⟨k + 1, (x + y + cn) / 4294967296, L.set k ((x + y + cn) % 4294967296), by omega, by go_num, by go_num, s2, hR.set k (by omega), by show _ = _; rw [List.length_set]; exact hL.out, hB.setCell (Nat.le_refl _) _, s3, s4⟩
          case measure => simp [intOf]; omega
        · have HST := Lib.hid (hst x 0 rfl (getD_out hkb) hv.out)
          have HE1 := Lib.hid (show ((x : Int) + (cn : Int)) % 4294967296 = (((x + 0 + cn) % 4294967296 : Nat) : Int) by omega)
          clear hst hra hrb
          go_wp2_with (go_at_call 52; refine (add32I (by omega) (by omega) (by omega) (by omega) (by omega) (by omega)).mono ?_; rintro e w' ⟨rfl, rfl⟩)
          go_roundw
          case rel =>
            obtain ⟨s1, s2, s3, s4⟩ := HST.out
            rw [HE1.out]
            exact ⟨k + 1, (x + 0 + cn) / 4294967296, L.set k ((x + 0 + cn) % 4294967296), by omega, by go_num, by go_num, s2, hR.set k (by omega), by show _ = _; rw [List.length_set]; exact hL.out, hB.setCell (Nat.le_refl _) _, s3, s4⟩
          case measure => simp [intOf]; omega
      · have hkb : k < lb.length := by rcases HN.out k hlt with h | h <;> omega
        obtain ⟨bb, offb, rfl, cB⟩ := hrb.at hB hkb
        have hy := dig_get hdb k
        have hst := fun y => @sum_step la lb L cn k 0 y N hL.out hz.out hR.dig hcn hlt hda hdb (getD_out hka)
        generalize lb.getD k 0 = y at *
        have HST := Lib.hid (hst y rfl hv.out)
        have HE1 := Lib.hid (show ((y : Int) + (cn : Int)) % 4294967296 = (((0 + y + cn) % 4294967296 : Nat) : Int) by omega)
        clear hst hra hrb
        go_wp2_with (go_at_call 52; refine (add32I (by omega) (by omega) (by omega) (by omega) (by omega) (by omega)).mono ?_; rintro e w' ⟨rfl, rfl⟩)
        go_roundw
        case rel =>
          obtain ⟨s1, s2, s3, s4⟩ := HST.out
          rw [HE1.out]
          exact ⟨k + 1, (0 + y + cn) / 4294967296, L.set k ((0 + y + cn) % 4294967296), by omega, by go_num, by go_num, s2, hR.set k (by omega), by show _ = _; rw [List.length_set]; exact hL.out, hB.setCell (Nat.le_refl _) _, s3, s4⟩
        case measure => simp [intOf]; omega
    · obtain rfl : k = N := by omega
      have cR := hR.cell (j := k) (by rw [hL.out]; omega)
      have fR := hR.free k
      generalize L.getD k 0 = z at *
      have HV := Lib.hid (sum_end hL.out hz.out hNa hNb hv.out)
      have HR2 := hR.set k (d := cn) (by omega)
      have HLL := Lib.hid (show (L.set k cn).length = k + 1 by rw [List.length_set]; exact hL.out)
      clear hra hrb
      go_wp2_with (go_at_call 39; refine (numTrim_own _ _ _ _ (show Own _ _ _ _ from by have := HR2; unfold Row at this; rw [HLL.out] at this; exact this)).mono ?_; rintro e w2 ⟨v, rfl, ho, rfl⟩)
      go_ret
      rw [HV.out] at ho
      exact ⟨v, rfl, ho, hB.setCell (Nat.le_refl _) _⟩

theorem sub32_ge {w : World} {x y c : Int} (hx0 : 0 ≤ x) (hx : x < 4294967296) (hy0 : 0 ≤ y) (hy : y < 4294967296) (hc0 : 0 ≤ c) (hc : c ≤ 1) (h : y + c ≤ x) :
    Calls Try.prog 54 #[.int .u32 x, .int .u32 y, .int .u32 c] w fun e w' => e = .returned (.tuple #[.int .u32 (x - y - c), .int .u32 0]) ∧ w = w' := by
  obtain ⟨x, rfl⟩ := Int.eq_ofNat_of_zero_le hx0
  obtain ⟨y, rfl⟩ := Int.eq_ofNat_of_zero_le hy0
  obtain ⟨c, rfl⟩ := Int.eq_ofNat_of_zero_le hc0
  refine (sub32W (by omega) (by omega) (by omega)).mono ?_
  rintro e w' ⟨rfl, rfl⟩
  refine ⟨two_eq (by omega) ?_, rfl⟩
  unfold subC; rw [if_neg (by omega)]; rfl
theorem sub32_lt {w : World} {x y c : Int} (hx0 : 0 ≤ x) (hx : x < 4294967296) (hy0 : 0 ≤ y) (hy : y < 4294967296) (hc0 : 0 ≤ c) (hc : c ≤ 1) (h : x < y + c) :
    Calls Try.prog 54 #[.int .u32 x, .int .u32 y, .int .u32 c] w fun e w' => e = .returned (.tuple #[.int .u32 (x - y - c + 4294967296), .int .u32 1]) ∧ w = w' := by
  obtain ⟨x, rfl⟩ := Int.eq_ofNat_of_zero_le hx0
  obtain ⟨y, rfl⟩ := Int.eq_ofNat_of_zero_le hy0
  obtain ⟨c, rfl⟩ := Int.eq_ofNat_of_zero_le hc0
  refine (sub32W (by omega) (by omega) (by omega)).mono ?_
  rintro e w' ⟨rfl, rfl⟩
  refine ⟨two_eq (by omega) ?_, rfl⟩
  unfold subC; rw [if_pos (by omega)]; rfl

theorem numLess_any (w : World) (u v : Value) (la lb : List Nat) (hu : Rd w u la) (hv : Rd w v lb) (hlen : lb.length ≤ la.length) (hle : val lb ≤ val la) (hla : la.length ≤ 1000000) :
    Calls Try.prog 43 #[u, v] w fun e w' => ∃ z, e = .returned z ∧ Own w' w.heap.size z (nf (val la - val lb)) ∧ Below w.heap.size w w' := by
  obtain ⟨a, capa, rfl, _, _, hda, hra⟩ := hu
  obtain ⟨b, capb, rfl, _, _, hdb, hrb⟩ := hv
  have HLE := Lib.hid hle
  clear hle
  go_enter Try.func43, Try.ntmps43
  go_wp2_with (at_make; go_loud (refine make_u32 _ rfl (.tmp 10) (.tmp 10) 22 rfl Try.underlying22 _ _ la.length rfl rfl (by omega) (by omega) (by omega) ?_); intro w1 R0 B0)
  go_loopw [6, 14] (fun c i wr => ∃ (k cn : Nat) (L : List Nat), k ≤ la.length ∧ i = .int .i64 k ∧ c = .int .u32 cn ∧ cn ≤ 1 ∧ Row wr w.heap.size w.heap.size la.length L ∧ Hid (L.length = la.length) ∧ Below w.heap.size w wr ∧
      Hid (∀ j, k ≤ j → L.getD j 0 = 0) ∧ Hid (val L + val (lb.take k) = val (la.take k) + 4294967296 ^ k * cn)) (fun _ i _ => la.length - (intOf i).toNat)
  case atStart => exact ⟨0, 0, _, Nat.zero_le _, rfl, rfl, by omega, R0, by show _ = _; simp, B0, fun j _ => getD_replicate _ _, by show _ = _; simp [val_replicate, val_nil]⟩
  case round =>
    obtain ⟨k, cn, L, hk, rfl, rfl, hcn, hR, hL, hB, hz, hv⟩ := hrel
    have hRc := hR.cap
    have hRl := hR.lt
    by_cases hlt : k < la.length
    · obtain ⟨ba, offa, rfl, cA⟩ := hra.at hB hlt
      have hst := fun x y d c' => @sub_step la lb L cn k d c' x y hL.out hz.out hlt
      have cR := hR.cell (j := k) (by rw [hL.out]; omega)
      have fR := hR.free k
      have hx := dig_get hda k
      generalize hgx : la.getD k 0 = x at *
      have hst := fun y d c' => hst x y d c' rfl hv.out
      clear hgx
      generalize L.getD k 0 = z at *
      by_cases hltb : k < lb.length
      · obtain ⟨bb, offb, rfl, cB⟩ := hrb.at hB hltb
        have hy := dig_get hdb k
        generalize hgy : lb.getD k 0 = y at *
        have hst := fun d c' => hst y d c' (.inl ⟨hltb, rfl⟩)
        clear hgy
        by_cases hge : y + cn ≤ x
        · have HST := Lib.hid (hst (x - y - cn) 0 (by omega))
          clear hst hra hrb
          go_wp2_with (go_at_call 54; refine (sub32_ge (by omega) (by omega) (by omega) (by omega) (by omega) (by omega) (by omega)).mono ?_; rintro e w' ⟨rfl, rfl⟩)
          go_roundw
          case rel =>
            obtain ⟨s1, s2⟩ := HST.out
            rw [show ((x : Int) - (y : Int) - (cn : Int)) = ((x - y - cn : Nat) : Int) by omega]
            exact ⟨k + 1, 0, _, by omega, by go_num, by go_num, by omega, hR.set k (by omega), by show _ = _; rw [List.length_set]; exact hL.out, hB.setCell (Nat.le_refl _) _, s1, s2⟩
          case measure => simp [intOf]; omega
        · have HST := Lib.hid (hst (x + 4294967296 - y - cn) 1 (by omega))
          clear hst hra hrb
          go_wp2_with (go_at_call 54; refine (sub32_lt (by omega) (by omega) (by omega) (by omega) (by omega) (by omega) (by omega)).mono ?_; rintro e w' ⟨rfl, rfl⟩)
          go_roundw
          case rel =>
            obtain ⟨s1, s2⟩ := HST.out
            rw [show ((x : Int) - (y : Int) - (cn : Int) + 4294967296) = ((x + 4294967296 - y - cn : Nat) : Int) by omega]
            exact ⟨k + 1, 1, _, by omega, by go_num, by go_num, by omega, hR.set k (by omega), by show _ = _; rw [List.length_set]; exact hL.out, hB.setCell (Nat.le_refl _) _, s1, s2⟩
          case measure => simp [intOf]; omega
      · have hst := fun d c' => hst 0 d c' (.inr ⟨by omega, rfl⟩)
        by_cases hge : cn ≤ x
        · have HST := Lib.hid (hst (x - 0 - cn) 0 (by omega))
          clear hst hra hrb
          go_wp2_with (go_at_call 54; refine (sub32_ge (by omega) (by omega) (by omega) (by omega) (by omega) (by omega) (by omega)).mono ?_; rintro e w' ⟨rfl, rfl⟩)
          go_roundw
          case rel =>
            obtain ⟨s1, s2⟩ := HST.out
            first | rw [show ((x : Int) - (cn : Int)) = ((x - 0 - cn : Nat) : Int) by omega] | rw [show ((x : Int) - 0 - (cn : Int)) = ((x - 0 - cn : Nat) : Int) by omega]
            exact ⟨k + 1, 0, _, by omega, by go_num, by go_num, by omega, hR.set k (by omega), by show _ = _; rw [List.length_set]; exact hL.out, hB.setCell (Nat.le_refl _) _, s1, s2⟩
          case measure => simp [intOf]; omega
        · have HST := Lib.hid (hst (x + 4294967296 - 0 - cn) 1 (by omega))
          clear hst hra hrb
          go_wp2_with (go_at_call 54; refine (sub32_lt (by omega) (by omega) (by omega) (by omega) (by omega) (by omega) (by omega)).mono ?_; rintro e w' ⟨rfl, rfl⟩)
          go_roundw
          case rel =>
            obtain ⟨s1, s2⟩ := HST.out
            first | rw [show ((x : Int) - (cn : Int) + 4294967296) = ((x + 4294967296 - 0 - cn : Nat) : Int) by omega] | rw [show ((x : Int) - 0 - (cn : Int) + 4294967296) = ((x + 4294967296 - 0 - cn : Nat) : Int) by omega]
            exact ⟨k + 1, 1, _, by omega, by go_num, by go_num, by omega, hR.set k (by omega), by show _ = _; rw [List.length_set]; exact hL.out, hB.setCell (Nat.le_refl _) _, s1, s2⟩
          case measure => simp [intOf]; omega
    · have hkl : k = la.length := by omega
      subst hkl
      have HV := Lib.hid (sub_end hR.dig hL.out hlen HLE.out hv.out)
      have HR2 := hR
      clear hra hrb
      go_wp2_with (go_at_call 39; refine (numTrim_own _ _ _ _ (show Own _ _ _ _ from by have := HR2; unfold Row at this; rw [hL.out] at this; exact this)).mono ?_; rintro e w2 ⟨v, rfl, ho, rfl⟩)
      go_ret
      rw [HV.out] at ho
      exact ⟨v, rfl, ho, hB⟩

end Go.Proofs.Ytfdgglddldlpjaa

/- The reference's numbers (package bspregionnum): the contracts of its simple functions in the words of XWord. -/
namespace Go.Proofs.Ytfdgglddldlpjaa
open Go.RowKit

section
variable {w : World} {u v : Value} {m n km kn : Nat}
theorem numSumW (hu : Nn w u m km) (hv : Nn w v n kn) (hk : km ≤ 900000) (hk2 : kn ≤ 900000) : Calls Try.prog 41 #[u, v] w (RetN w (m + n) (max km kn + 1)) := by
  obtain ⟨h1, l1⟩ := hu
  obtain ⟨h2, l2⟩ := hv
  have hc := sum_any _ _ _ _ _ h1 h2 (by omega) (by omega)
  rw [val_nf, val_nf] at hc
  refine hc.mono ?_
  rintro e w' ⟨z, rfl, hz, hb⟩
  exact .mk (.of_own hz (len_addM l1 l2)) hb
theorem numLessW (hu : Nn w u m km) (hv : Nn w v n kn) (hk : km ≤ 900000) (h : n ≤ m) : Calls Try.prog 43 #[u, v] w (RetN w (m - n) km) := by
  obtain ⟨h1, l1⟩ := hu
  obtain ⟨h2, l2⟩ := hv
  have hc := numLess_any _ _ _ _ _ h1 h2 (nf_len_mono h) (by rw [val_nf, val_nf]; exact h) (by omega)
  rw [val_nf, val_nf] at hc
  refine hc.mono ?_
  rintro e w' ⟨z, rfl, hz, hb⟩
  exact .mk (.of_own hz (len_le (Nat.sub_le _ _) l1)) hb
theorem numWordW {x : Nat} (hx : x < 18446744073709551616) : Calls Try.prog 26 #[.int .u64 (x : Int)] w (RetN w x 2) := by
  refine (word_any _ x hx).mono ?_
  rintro e w' ⟨z, rfl, hz, hb⟩
  exact .mk (.of_own hz (nf_len_le (by omega))) hb
theorem numWordI {x : Int} (h0 : 0 ≤ x) (h : x < 18446744073709551616) : Calls Try.prog 26 #[.int .u64 x] w (RetN w x.natAbs 2) := by
  obtain ⟨n, rfl⟩ := Int.eq_ofNat_of_zero_le h0
  exact numWordW (by omega)
theorem len_shl {m k c : Nat} (h : (nf m).length ≤ c) : (nf (m * 2 ^ k)).length ≤ c + (k / 32 + 1) := by
  refine len_mul h (nf_len_le ?_) (Nat.le_refl _)
  rw [show (4294967296 : Nat) = 2 ^ 32 by decide, ← Nat.pow_mul]
  exact Nat.pow_lt_pow_right (by omega) (by omega)
end
theorem u64_pair {a b : Int} (h : a = b) : Ending.returned (.tuple #[.int .u64 a, .bool true]) = Ending.returned (.tuple #[.int .u64 b, .bool true]) := by rw [h]
end Go.Proofs.Ytfdgglddldlpjaa

/- The reference's division (package bspregionnum): Divide, its long division, Common and Root. -/
namespace Go.Proofs.Ytfdgglddldlpjaa
open Go.RowKit

/-! ### plain laws of the long division -/
theorem nf_getD : ∀ (k n : Nat), (nf n).getD k 0 = n / 4294967296 ^ k % 4294967296
  | 0, n => by
    by_cases h : n = 0
    · subst h; simp [nf_zero]
    · rw [nf_pos h]; simp
  | k + 1, n => by
    by_cases h : n = 0
    · subst h; simp [nf_zero]
    · rw [nf_pos h, List.getD_cons_succ, nf_getD k, Nat.div_div_eq_div_mul, Nat.pow_succ, Nat.mul_comm 4294967296]
theorem div_two {R p : Nat} : R / 4294967296 ^ p = R / 4294967296 ^ p % 4294967296 + 4294967296 * (R / 4294967296 ^ (p + 1)) := by
  rw [Nat.pow_succ, ← Nat.div_div_eq_div_mul]; omega
/-- The leading digits of what is left: R is below B^(p+2). -/
theorem lead_two {R p : Nat} (h : R < 4294967296 ^ (p + 2)) : R / 4294967296 ^ p = (nf R).getD p 0 + 4294967296 * (nf R).getD (p + 1) 0 ∧ R / 4294967296 ^ p < 18446744073709551616 := by
  have h1 : R / 4294967296 ^ (p + 1) < 4294967296 := by
    rw [Nat.div_lt_iff_lt_mul (Nat.pow_pos (by omega)), Nat.mul_comm, ← Nat.pow_succ]; exact h
  have h2 := @div_two R p
  rw [nf_getD, nf_getD, Nat.mod_eq_of_lt h1]
  exact ⟨h2, by omega⟩
/-- The guess is not less than the digit. -/
theorem guess_ge {R V top j N : Nat} (hN : 0 < N) (ht : top * 4294967296 ^ (N - 1) ≤ V) (ht0 : 0 < top) (hR : R < V * 4294967296 ^ (j + 1)) :
    R / (V * 4294967296 ^ j) ≤ min (R / 4294967296 ^ (N + j - 1) / top) 4294967295 := by
  have hB : 0 < 4294967296 ^ (N - 1) := Nat.pow_pos (by omega)
  have hV : 0 < V := Nat.lt_of_lt_of_le (Nat.mul_pos ht0 hB) ht
  have hP : 0 < 4294967296 ^ j := Nat.pow_pos (by omega)
  have h1 : R / (V * 4294967296 ^ j) < 4294967296 := by
    rw [Nat.div_lt_iff_lt_mul (Nat.mul_pos hV hP)]
    rw [Nat.pow_succ] at hR
    have e : 4294967296 * (V * 4294967296 ^ j) = V * (4294967296 ^ j * 4294967296) := by rw [Nat.mul_comm, Nat.mul_assoc]
    omega
  have h2 : R / (V * 4294967296 ^ j) ≤ R / 4294967296 ^ (N + j - 1) / top := by
    rw [Nat.le_div_iff_mul_le ht0, Nat.le_div_iff_mul_le (Nat.pow_pos (by omega))]
    have e1 : 4294967296 ^ (N + j - 1) = 4294967296 ^ (N - 1) * 4294967296 ^ j := by
      rw [← Nat.pow_add]; congr 1; omega
    have h3 := Nat.div_mul_le_self R (V * 4294967296 ^ j)
    have h4 : R / (V * 4294967296 ^ j) * top * 4294967296 ^ (N + j - 1) ≤ R / (V * 4294967296 ^ j) * (V * 4294967296 ^ j) := by
      rw [e1, Nat.mul_assoc, ← Nat.mul_assoc top]
      exact Nat.mul_le_mul_left _ (Nat.mul_le_mul_right _ ht)
    omega
  omega
theorem guess_down {R W g : Nat} (hW : 0 < W) (h : R < g * W) : R / W ≤ g - 1 ∧ 0 < g := by
  have h1 : R / W < g := by rw [Nat.div_lt_iff_lt_mul hW]; exact h
  generalize R / W = q at *
  omega
theorem guess_done {R W g : Nat} (hW : 0 < W) (hg : R / W ≤ g) (h : g * W ≤ R) : g = R / W := by
  have : g ≤ R / W := by rw [Nat.le_div_iff_mul_le hW]; exact h
  generalize R / W = q at *
  omega
/-- What the loop keeps: A is V times the digits that have been found, and what is left. -/
structure NDiv (A V k : Nat) (L : List Nat) (R : Nat) : Prop where
  eq : A = V * val L + R
  zero : ∀ i, i < k → L.getD i 0 = 0
  lt : R < V * 4294967296 ^ k
theorem NDiv.start {m n s la lb c : Nat} (hm : m < 4294967296 ^ la) (hn : 4294967296 ^ (lb - 1) ≤ n) (hlb : 0 < lb) (hle : lb ≤ la) (hc : c = la - lb + 1) : NDiv (m * 2 ^ s) (n * 2 ^ s) c (List.replicate c 0) (m * 2 ^ s) := by
  subst hc
  refine ⟨by rw [val_replicate]; simp, fun i _ => getD_replicate _ _, ?_⟩
  have h1 : 4294967296 ^ la ≤ n * 4294967296 ^ (la - lb + 1) := by
    have e : 4294967296 ^ la = 4294967296 ^ (lb - 1) * 4294967296 ^ (la - lb + 1) := by
      rw [← Nat.pow_add]; congr 1; omega
    rw [e]; exact Nat.mul_le_mul_right _ hn
  rw [Nat.mul_right_comm]
  exact Nat.mul_lt_mul_of_lt_of_le (Nat.lt_of_lt_of_le hm h1) (Nat.le_refl _) (Nat.pow_pos (by omega))
theorem NDiv.step {A V j : Nat} {L : List Nat} {R g : Nat} (h : NDiv A V (j + 1) L R) (hj : j < L.length) (hV : 0 < V) (hg : g = R / (V * 4294967296 ^ j)) :
    NDiv A V j (L.set j g) (R - V * g * 4294967296 ^ j) ∧ g < 4294967296 ∧ V * g * 4294967296 ^ j ≤ R := by
  have hP : 0 < 4294967296 ^ j := Nat.pow_pos (by omega)
  have hW : 0 < V * 4294967296 ^ j := Nat.mul_pos hV hP
  have e0 : V * g * 4294967296 ^ j = V * 4294967296 ^ j * g := by rw [Nat.mul_right_comm]
  have hdm := Nat.div_add_mod R (V * 4294967296 ^ j)
  have hlt := Nat.mod_lt R hW
  rw [← hg] at hdm
  have hg2 : g < 4294967296 := by
    rw [hg, Nat.div_lt_iff_lt_mul hW]
    have := h.lt
    rw [Nat.pow_succ] at this
    have e : 4294967296 * (V * 4294967296 ^ j) = V * (4294967296 ^ j * 4294967296) := by rw [Nat.mul_comm, Nat.mul_assoc]
    omega
  refine ⟨⟨?_, fun i hi => ?_, ?_⟩, hg2, by omega⟩
  · have h1 := last_carry (L := L) (j := j) (c := g) hj (h.zero j (by omega))
    rw [h1, Nat.mul_add, ← Nat.mul_assoc, ← e0, Nat.mul_right_comm V g] at *
    have := h.eq
    have e2 : V * 4294967296 ^ j * g = V * (4294967296 ^ j * g) := Nat.mul_assoc _ _ _
    omega
  · rw [set_getD_ne _ _ _ _ (by omega)]; exact h.zero i (by omega)
  · omega
theorem NDiv.done {m n s : Nat} {L : List Nat} {R : Nat} (h : NDiv (m * 2 ^ s) (n * 2 ^ s) 0 L R) (hn : 0 < n) : val L = m / n ∧ R / 2 ^ s = m % n := by
  have hP : 0 < 2 ^ s := Nat.pow_pos (by omega)
  have hlt := h.lt
  rw [Nat.pow_zero, Nat.mul_one] at hlt
  have he := h.eq
  have h1 : m * 2 ^ s / (n * 2 ^ s) = val L := by
    rw [he, Nat.mul_add_div (Nat.mul_pos hn hP), Nat.div_eq_of_lt hlt, Nat.add_zero]
  have h2 : m * 2 ^ s % (n * 2 ^ s) = R := by
    rw [he, Nat.mul_add_mod, Nat.mod_eq_of_lt hlt]
  rw [Nat.mul_div_mul_right _ _ hP] at h1
  rw [Nat.mul_mod_mul_right] at h2
  exact ⟨h1.symm, by rw [← h2, Nat.mul_div_cancel _ hP]⟩
/-- The slice does not lie in block g. -/
def Off (g : Nat) (v : Value) : Prop := ∀ b off spot l c, v = .slice (some ⟨b, off, spot⟩) l c → b ≠ g
theorem Own.off {w : World} {base g : Nat} {v : Value} {l : List Nat} (h : Own w base v l) (hg : g < base) : Off g v := by
  intro b off spot l' c e
  rcases h.shape with ⟨rfl, _⟩ | ⟨g', cap, rfl, h1, h2, _⟩
  · cases e
  · injection e with e1 e2 e3
    injection e1 with e1
    injection e1 with e1
    omega
theorem Own.off2 {w : World} {base g : Nat} {v : Value} {l : List Nat} (h : Own w base v l) (hg : w.heap.size ≤ g) : Off g v := by
  intro b off spot l' c e
  rcases h.shape with ⟨rfl, _⟩ | ⟨g', cap, rfl, h1, h2, _⟩
  · cases e
  · injection e with e1 e2 e3
    injection e1 with e1
    injection e1 with e1
    omega
theorem Rd.setOff {W : World} {v : Value} {l : List Nat} {g j : Nat} {x : Value} (h : Rd W v l) (ho : Off g v) : Rd (W.setCell ⟨g, j, none⟩ x) v l := by
  obtain ⟨a, cap, rfl, h1, h2, h3, h4⟩ := h
  refine ⟨a, cap, rfl, h1, h2, h3, fun h0 => ?_⟩
  obtain ⟨b, off, rfl, hcell⟩ := h4 h0
  have := ho b off none _ _ rfl
  refine ⟨b, off, rfl, fun i hi => ?_⟩
  rw [World.cell?_setCell_other _ _ _ _ (fun e => this (by injection e with e1; exact e1.symm))]
  exact hcell i hi
theorem Rd.len {w : World} {a : Option Addr} {l c : Nat} {L : List Nat} (h : Rd w (.slice a l c) L) : l = L.length := by
  obtain ⟨a', c', e, _⟩ := h
  injection e
theorem Rd.sl {w : World} {v : Value} {L : List Nat} (h : Rd w v L) : ∃ a c, v = .slice a L.length c := by
  obtain ⟨a', c', e, _⟩ := h
  exact ⟨a', c', e⟩

theorem wordZ (w : World) (x : Int) (n : Nat) (hx : x = n) (hn : n < 18446744073709551616) :
    Calls Try.prog 26 #[.int .u64 x] w fun e w' => ∃ z, e = .returned z ∧ Own w' w.heap.size z (nf n) ∧ Below w.heap.size w w' := by
  subst hx; exact word_any w n hn
end Go.Proofs.Ytfdgglddldlpjaa

/- The reference's Divide, Common and Root (package bspregionnum). -/
namespace Go.Proofs.Ytfdgglddldlpjaa
open Go.RowKit

/-- What Divide returns: quotient and remainder. -/
def RetQR (w : World) (q r k : Nat) (e : Ending) (w' : World) : Prop := ∃ a l c a2 l2 c2, e = .returned (.tuple #[.slice a l c, .slice a2 l2 c2]) ∧ Nn w' (.slice a l c) q k ∧ Nn w' (.slice a2 l2 c2) r k ∧ Below w.heap.size w w'
theorem RetQR.mk {w w' : World} {q r k : Nat} {v1 v2 : Value} (h1 : Nn w' v1 q k) (h2 : Nn w' v2 r k) (hb : Below w.heap.size w w') : RetQR w q r k (.returned (.tuple #[v1, v2])) w' := by
  obtain ⟨a, c, rfl, _⟩ := h1.shape
  obtain ⟨a2, c2, rfl, _⟩ := h2.shape
  exact ⟨_, _, _, _, _, _, rfl, h1, h2, hb⟩
end Go.Proofs.Ytfdgglddldlpjaa

/- Contracts as one step of a walk, and what is kept while the tape is read on. printed by a small program (mkcall.py). -/
namespace Go.Proofs.Ytfdgglddldlpjaa
open Go.RowKit

theorem Calls.kN {P : Program} {f : FuncId} {args : Array Value} {w : World} {n k : Nat} {K : Ending → World → Prop} (h : Calls P f args w (RetN w n k))
    (hK : ∀ w', Below w.heap.size w w' → w.heap.size ≤ w'.heap.size → ∀ a l c, Nn w' (.slice a l c) n k → K (.returned (.slice a l c)) w') : Calls P f args w K := by
  refine h.mono ?_
  rintro e w' ⟨a, l, c, rfl, hn, hb⟩
  exact hK w' hb hb.size a l c hn
theorem Calls.kR {P : Program} {f : FuncId} {args : Array Value} {w : World} {n k : Nat} {K : Ending → World → Prop} (h : Calls P f args w (RetR w n k))
    (hK : ∀ w', Below w.heap.size w w' → w.heap.size ≤ w'.heap.size → ∀ a l c, Rr w' (.slice a l c) n k → K (.returned (.slice a l c)) w') : Calls P f args w K := by
  refine h.mono ?_
  rintro e w' ⟨a, l, c, rfl, hn, hb⟩
  exact hK w' hb hb.size a l c hn
theorem Calls.kE {P : Program} {f : FuncId} {args : Array Value} {w : World} {v : Value} {K : Ending → World → Prop} (h : Calls P f args w (fun e w' => e = .returned v ∧ Below w.heap.size w w'))
    (hK : ∀ w', Below w.heap.size w w' → w.heap.size ≤ w'.heap.size → K (.returned (v)) w') : Calls P f args w K := by
  refine h.mono ?_
  rintro e w' ⟨rfl, hb⟩
  exact hK w' hb hb.size
theorem Calls.kS {P : Program} {f : FuncId} {args : Array Value} {w : World} {v : Value} {K : Ending → World → Prop} (h : Calls P f args w (fun e w' => e = .returned v ∧ w = w'))
    (hK : K (.returned v) w) : Calls P f args w K := by
  refine h.mono ?_
  rintro e w' ⟨rfl, rfl⟩
  exact hK
theorem Calls.kZ {P : Program} {f : FuncId} {args : Array Value} {w : World} {z : Int} {k : Nat} {K : Ending → World → Prop} (h : Calls P f args w (RetZ w z k))
    (hK : ∀ w', Below w.heap.size w w' → w.heap.size ≤ w'.heap.size → ∀ g a l c, Zz w' g (.slice a l c) z k → K (.returned (.agg #[.bool g, .slice a l c])) w') : Calls P f args w K := by
  refine h.mono ?_
  rintro e w' ⟨g, a, l, c, rfl, hn, hb⟩
  exact hK w' hb hb.size g a l c hn
theorem Calls.kSg {P : Program} {f : FuncId} {args : Array Value} {w : World} {a : Option Addr} {l c k : Nat} {z : Int} {K : Ending → World → Prop} (h : Calls P f args w (fun e w' => ∃ g', e = .returned (.agg #[.bool g', .slice a l c]) ∧ Zz w' g' (.slice a l c) z k ∧ Below w.heap.size w w'))
    (hK : ∀ w', Below w.heap.size w w' → w.heap.size ≤ w'.heap.size → ∀ g, Zz w' g (.slice a l c) z k → K (.returned (.agg #[.bool g, .slice a l c])) w') : Calls P f args w K := by
  refine h.mono ?_
  rintro e w' ⟨g, rfl, hn, hb⟩
  exact hK w' hb hb.size g hn
theorem Calls.kDZ {P : Program} {f : FuncId} {args : Array Value} {w : World} {x y : Int} {k : Nat} {K : Ending → World → Prop} (h : Calls P f args w (DivZ w x y k))
    (hK : ∀ w', Below w.heap.size w w' → w.heap.size ≤ w'.heap.size → ∀ g a l c g2 a2 l2 c2, Zz w' g (.slice a l c) (x / y) k → Zz w' g2 (.slice a2 l2 c2) (if y = 0 then 0 else x % y) k → K (.returned (.tuple #[.agg #[.bool g, .slice a l c], .agg #[.bool g2, .slice a2 l2 c2], .bool (decide (y ≠ 0))])) w') : Calls P f args w K := by
  refine h.mono ?_
  rintro e w' ⟨g, a, l, c, g2, a2, l2, c2, rfl, h1, h2, hb⟩
  exact hK w' hb hb.size g a l c g2 a2 l2 c2 h1 h2
theorem Calls.kQ {P : Program} {f : FuncId} {args : Array Value} {w : World} {q r k : Nat} {K : Ending → World → Prop} (h : Calls P f args w (RetQR w q r k))
    (hK : ∀ w', Below w.heap.size w w' → w.heap.size ≤ w'.heap.size → ∀ a l c a2 l2 c2, Nn w' (.slice a l c) q k → Nn w' (.slice a2 l2 c2) r k → K (.returned (.tuple #[.slice a l c, .slice a2 l2 c2])) w') : Calls P f args w K := by
  refine h.mono ?_
  rintro e w' ⟨a, l, c, a2, l2, c2, rfl, h1, h2, hb⟩
  exact hK w' hb hb.size a l c a2 l2 c2 h1 h2
/-- An operation whose guard has not been reckoned is passed over. -/
theorem ite_none {c : Option Bool} {b : Bool} {P Q : Prop} [Decidable (c = some b)] (hc : c = none) (h : Q) : if c = some b then P else Q := by
  rw [if_neg (by rw [hc]; exact fun e => nomatch e)]; exact h
theorem cellTp {W W2 : World} {g : Nat} {a : Addr} {v : Value} (hg : W.grownBy W2 (some g)) (hne : a.block ≠ g) (h : W.cell? a = some v) : W2.cell? a = some v :=
  hg.cell h (fun e => hne (Option.some.inj e))
theorem Fz.tp {W W2 : World} {g : Nat} {a : Addr} (hg : W.grownBy W2 (some g)) (hne : a.block ≠ g) (h : Fz W a) : Fz W2 a := by
  obtain ⟨⟨v, hv⟩, hf⟩ := h
  exact ⟨⟨v, cellTp hg hne hv⟩, (hg.frozen_far a (lt_of_cell hv) (fun e => hne (Option.some.inj e))).trans hf⟩
/-! ### worlds in which the tape alone has changed -/
theorem gb_al {w W : World} {g : Nat} {o : Obj} (h : w.grownBy W (some g)) : w.grownBy (W.alloc o) (some g) := gb_below h (blw_one _ _)
theorem gb_dr {w W : World} {g : Nat} (h : w.grownBy W (some g)) : w.grownBy W.drew (some g) := gb_below h (blw_drew (Below.refl _ _))
theorem gb_drN {w W : World} {g j : Nat} (h : w.grownBy W (some g)) : w.grownBy (W.drewN j) (some g) := gb_below h (blw_drewN (Below.refl _ _) j)
theorem gb_keep2 {w W W2 : World} {g : Nat} (hb : Below W.heap.size W W2) (h : w.grownBy W (some g)) : w.grownBy W2 (some g) := gb_below h hb
theorem gb_tp2 {w W W2 : World} {g : Nat} (hg : W.grownBy W2 (some g)) (h : w.grownBy W (some g)) : w.grownBy W2 (some g) := gb_trans h hg
theorem gb_set {w W : World} {g : Nat} {p : Addr} {x : Value} (hp : w.heap.size ≤ p.block) (h : w.grownBy W (some g)) : w.grownBy (W.setCell p x) (some g) :=
  ⟨h.os, h.tape, h.output, by simpa using h.size, fun i hi hne => by rw [Below.heap_setCell _ _ _ _ (by omega)]; exact h.block i hi hne⟩
end Go.Proofs.Ytfdgglddldlpjaa

/- What a walk knows of memory, as classes: readings of numbers, boxes of the call's own with what they hold, and the order of the worlds. The premises of a contract are then found by instance search. printed by a small program (mkcls.py). -/
namespace Go.Proofs.Ytfdgglddldlpjaa
open Go.RowKit

/-- From W to W2 only new memory was written. -/
class Kp1 (W : outParam World) (W2 : World) : Prop where out : Below W.heap.size W W2
/-- The number of blocks. -/
class Sz (W : World) (b : outParam Nat) : Prop where out : W.heap.size = b
instance (priority := low) Sz.base {W : World} : Sz W W.heap.size := ⟨rfl⟩
instance Sz.al {W : World} {b : Nat} {o : Obj} [h : Sz W b] : Sz (W.alloc o) (b + 1) := ⟨by rw [World.size_alloc, h.out]⟩
instance Sz.dr {W : World} {b : Nat} [h : Sz W b] : Sz W.drew b := ⟨h.out⟩
instance Sz.drN {W : World} {b j : Nat} [h : Sz W b] : Sz (W.drewN j) b := ⟨h.out⟩
instance Sz.st {W : World} {b : Nat} {p : Addr} {x : Value} [h : Sz W b] : Sz (W.setCell p x) b := ⟨by rw [World.size_setCell, h.out]⟩
/-- No digit. -/
class Ndg (v : Value) : Prop where out : isDigit32 v = false
instance {b : Bool} : Ndg (.bool b) := ⟨rfl⟩
instance {a : Option Addr} {l c : Nat} : Ndg (.slice a l c) := ⟨rfl⟩
instance {a : Option Addr} : Ndg (.pointer a) := ⟨rfl⟩
instance {n : Int} : Ndg (.int .i64 n) := ⟨rfl⟩
instance {n : Int} : Ndg (.int .u64 n) := ⟨rfl⟩
class Ndl (l : List Value) : Prop where out : ∀ u ∈ l, isDigit32 u = false
instance Ndl.nil : Ndl [] := ⟨fun _ h => nomatch h⟩
instance Ndl.cons {v : Value} {l : List Value} [h1 : Ndg v] [h2 : Ndl l] : Ndl (v :: l) := ⟨fun u h => by
  rcases List.mem_cons.1 h with rfl | h
  · exact h1.out
  · exact h2.out _ h⟩
instance Ndl.set {v : Value} {l : List Value} {i : Nat} [h1 : Ndg v] [h2 : Ndl l] : Ndl (l.set i v) := ⟨fun u h => by
  rcases List.mem_or_eq_of_mem_set h with h | rfl
  · exact h2.out _ h
  · exact h1.out⟩
/-- Types of boxes: neither digits nor the tape nor a pair of big numbers. -/
class BoxT (t : TypeId) : Prop where
instance : BoxT 25 := by constructor <;> decide
instance : BoxT 30 := by constructor <;> decide
instance : BoxT 4 := by constructor <;> decide
instance : BoxT 3 := by constructor <;> decide
instance : BoxT 2 := by constructor <;> decide
instance : BoxT 50 := by constructor <;> decide
instance : BoxT 23 := by constructor <;> decide
instance : BoxT 28 := by constructor <;> decide
instance : BoxT 22 := by constructor <;> decide
instance : BoxT 9 := by constructor <;> decide
/-- a is less than b. -/
class LtN (a b : Nat) : Prop where out : a < b
class NeN (a b : Nat) : Prop where out : a ≠ b
instance LtN.one {a : Nat} : LtN a (a + 1) := ⟨Nat.lt_succ_self a⟩
instance (priority := low) LtN.step {a b : Nat} [h : LtN a b] : LtN a (b + 1) := ⟨Nat.lt_succ_of_lt h.out⟩
instance NeN.l {a b : Nat} [h : LtN a b] : NeN a b := ⟨Nat.ne_of_lt h.out⟩
instance NeN.r {a b : Nat} [h : LtN b a] : NeN a b := ⟨Nat.ne_of_gt h.out⟩
theorem heap_al_lt {W : World} {o : Obj} {b : Nat} (h : b < W.heap.size) : (W.alloc o).heap[b]? = W.heap[b]? := by
  simp only [World.alloc, Array.getElem?_push]; rw [if_neg (by omega)]
theorem heap_al_new {W : World} {o : Obj} : (W.alloc o).heap[W.heap.size]? = some o := by
  show (W.heap.push o)[W.heap.size]? = some o
  simp
/-- The box b holds the cells l; it is of type t. -/
class Bx (W : World) (b : Nat) (t : outParam TypeId) (l : outParam (List Value)) : Prop where out : W.heap[b]? = some (.cells l.toArray t (0, 0))
theorem Bx.lt {W : World} {b : Nat} {t : TypeId} {l : List Value} (h : Bx W b t l) : b < W.heap.size := heap_lt h.out
instance Bx.new {W : World} {b : Nat} {t : TypeId} {l : List Value} [h : Sz W b] : Bx (W.alloc (.cells l.toArray t (0, 0))) b t l := ⟨by rw [← h.out]; exact heap_al_new⟩
instance (priority := low) Bx.al {W : World} {b : Nat} {t : TypeId} {l : List Value} {o : Obj} [h : Bx W b t l] : Bx (W.alloc o) b t l := ⟨by rw [heap_al_lt h.lt]; exact h.out⟩
instance Bx.dr {W : World} {b : Nat} {t : TypeId} {l : List Value} [h : Bx W b t l] : Bx W.drew b t l := ⟨h.out⟩
instance Bx.drN {W : World} {b j : Nat} {t : TypeId} {l : List Value} [h : Bx W b t l] : Bx (W.drewN j) b t l := ⟨h.out⟩
instance Bx.kp {W W2 : World} {b : Nat} {t : TypeId} {l : List Value} [k : Kp1 W W2] [h : Bx W b t l] : Bx W2 b t l := ⟨by rw [k.out.block b h.lt]; exact h.out⟩
instance (priority := low) Bx.setO {W : World} {b q i : Nat} {x : Value} {t : TypeId} {l : List Value} [h : Bx W b t l] [n : NeN q b] : Bx (W.setCell ⟨q, i, none⟩ x) b t l := ⟨by
  simp only [World.setCell, Array.getElem?_modify]
  rw [if_neg n.out]; exact h.out⟩
instance Bx.setS {W : World} {b i : Nat} {x : Value} {t : TypeId} {l : List Value} [h : Bx W b t l] : Bx (W.setCell ⟨b, i, none⟩ x) b t (l.set i x) := ⟨by
  simp only [World.setCell, Array.getElem?_modify, if_pos]
  rw [h.out]; simp⟩
instance LtN.bx {W : World} {b : Nat} {t : TypeId} {l : List Value} [h : Bx W b t l] : LtN b W.heap.size := ⟨h.lt⟩
@[go_sem] theorem cell_bx {W : World} {b i : Nat} {t : TypeId} {l : List Value} [h : Bx W b t l] : W.cell? ⟨b, i, none⟩ = l[i]? := by
  simp [World.cell?, h.out]
@[go_sem] theorem frozen_bx {W : World} {b i : Nat} {t : TypeId} {l : List Value} [h : Bx W b t l] : W.frozen? ⟨b, i, none⟩ = false := by
  simp [World.frozen?, h.out]
/-- A box that no reading looks into. -/
class SoftB (W : World) (b : Nat) : Prop where out : ∃ t l, W.heap[b]? = some (.cells (List.toArray l) t (0, 0)) ∧ BoxT t ∧ ∀ u ∈ l, isDigit32 u = false
instance SoftB.mk' {W : World} {b : Nat} {t : TypeId} {l : List Value} [h : Bx W b t l] [ht : BoxT t] [hl : Ndl l] : SoftB W b := ⟨t, l, h.out, ht, hl.out⟩
theorem SoftB.no {W : World} {q i : Nat} {u : Value} (h : SoftB W q) (hc : W.cell? ⟨q, i, none⟩ = some u) : isDigit32 u = false := by
  obtain ⟨t, l, h1, _, h2⟩ := h.out
  simp only [World.cell?, h1] at hc
  have hc : l[i]? = some u := by simpa using hc
  exact h2 u (List.mem_of_getElem? hc)
/-- All new memory lies from w's end on. -/
class Kp (w W : World) : Prop where out : Below w.heap.size w W
class Ge (w : World) (b : Nat) : Prop where out : w.heap.size ≤ b
instance Ge.base {w : World} : Ge w w.heap.size := ⟨Nat.le_refl _⟩
instance Ge.step {w : World} {b : Nat} [h : Ge w b] : Ge w (b + 1) := ⟨Nat.le_succ_of_le h.out⟩
instance (priority := low) Ge.sz {w : World} {b : Nat} [h : Sz w b] : Ge w b := ⟨Nat.le_of_eq h.out⟩
instance (priority := low) Ge.kp {w W : World} [h : Kp w W] : Ge w W.heap.size := ⟨h.out.size⟩
instance Kp.refl {w : World} : Kp w w := ⟨Below.refl _ _⟩
instance Kp.al {w W : World} {o : Obj} [h : Kp w W] : Kp w (W.alloc o) := ⟨blw_alloc h.out o⟩
instance Kp.dr {w W : World} [h : Kp w W] : Kp w W.drew := ⟨blw_drew h.out⟩
instance Kp.drN {w W : World} {j : Nat} [h : Kp w W] : Kp w (W.drewN j) := ⟨blw_drewN h.out j⟩
instance Kp.st {w W : World} {q i : Nat} {x : Value} [h : Kp w W] [g : Ge w q] : Kp w (W.setCell ⟨q, i, none⟩ x) := ⟨blw_set x h.out g.out⟩
instance (priority := low) Kp.kp {w W W2 : World} [k : Kp1 W W2] [h : Kp w W] : Kp w W2 := ⟨blw_trans h.out k.out⟩
/-- From w on, the tape g apart, only new memory was written. -/
class Gb (w W : World) (g : Nat) : Prop where out : w.grownBy W (some g)
instance Gb.refl {w : World} {g : Nat} : Gb w w g := ⟨gb_refl _ _⟩
instance Gb.al {w W : World} {g : Nat} {o : Obj} [h : Gb w W g] : Gb w (W.alloc o) g := ⟨gb_al h.out⟩
instance Gb.dr {w W : World} {g : Nat} [h : Gb w W g] : Gb w W.drew g := ⟨gb_dr h.out⟩
instance Gb.drN {w W : World} {g j : Nat} [h : Gb w W g] : Gb w (W.drewN j) g := ⟨gb_drN h.out⟩
instance (priority := low) Gb.kp {w W W2 : World} {g : Nat} [k : Kp1 W W2] [h : Gb w W g] : Gb w W2 g := ⟨gb_keep2 k.out h.out⟩
/-- There are no fewer blocks. -/
class Kz (w W : World) : Prop where out : w.heap.size ≤ W.heap.size
instance Kz.refl {w : World} : Kz w w := ⟨Nat.le_refl _⟩
instance Kz.al {w W : World} {o : Obj} [h : Kz w W] : Kz w (W.alloc o) := ⟨by rw [World.size_alloc]; exact Nat.le_succ_of_le h.out⟩
instance Kz.dr {w W : World} [h : Kz w W] : Kz w W.drew := ⟨h.out⟩
instance Kz.drN {w W : World} {j : Nat} [h : Kz w W] : Kz w (W.drewN j) := ⟨h.out⟩
instance Kz.st {w W : World} {p : Addr} {x : Value} [h : Kz w W] : Kz w (W.setCell p x) := ⟨by rw [World.size_setCell]; exact h.out⟩
instance (priority := low) Kz.kp {w W W2 : World} [k : Kp1 W W2] [h : Kz w W] : Kz w W2 := ⟨Nat.le_trans h.out k.out.size⟩
class Gg (w : World) (b : Nat) : Prop where out : w.heap.size ≤ b
instance Gg.base {w : World} : Gg w w.heap.size := ⟨Nat.le_refl _⟩
instance Gg.step {w : World} {b : Nat} [h : Gg w b] : Gg w (b + 1) := ⟨Nat.le_succ_of_le h.out⟩
instance (priority := low) Gg.sz {w : World} {b : Nat} [h : Sz w b] : Gg w b := ⟨Nat.le_of_eq h.out⟩
instance (priority := low) Gg.gb {w W : World} [h : Kz w W] : Gg w W.heap.size := ⟨h.out⟩
instance Gb.st {w W : World} {g q i : Nat} {x : Value} [h : Gb w W g] [n : Gg w q] : Gb w (W.setCell ⟨q, i, none⟩ x) g := ⟨gb_set n.out h.out⟩
/-- W is as W0 was in the blocks that were there, but for those of L. -/
class Ex (W0 : World) (L : List Nat) (W : World) : Prop where
  size : W0.heap.size ≤ W.heap.size
  block : ∀ k, k < W0.heap.size → k ∉ L → W.heap[k]? = W0.heap[k]?
/-- The same as a fact of the walk. -/
class Ex1 (W0 : outParam World) (L : outParam (List Nat)) (W : World) : Prop where out : Ex W0 L W
class InL (q : Nat) (L : List Nat) : Prop where out : q ∈ L
instance InL.hd {q : Nat} {L : List Nat} : InL q (q :: L) := ⟨List.mem_cons_self ..⟩
instance (priority := low) InL.tl {q x : Nat} {L : List Nat} [h : InL q L] : InL q (x :: L) := ⟨List.mem_cons_of_mem _ h.out⟩
class NoL (q : Nat) (L : List Nat) : Prop where out : q ∉ L
instance NoL.nil {q : Nat} : NoL q [] := ⟨fun h => nomatch h⟩
instance NoL.cons {q x : Nat} {L : List Nat} [h1 : NeN q x] [h2 : NoL q L] : NoL q (x :: L) := ⟨fun h => (List.mem_cons.1 h).elim h1.out h2.out⟩
instance Ex.refl {W : World} {L : List Nat} : Ex W L W := ⟨Nat.le_refl _, fun _ _ _ => rfl⟩
instance Ex.dr {W0 W : World} {L : List Nat} [h : Ex W0 L W] : Ex W0 L W.drew := ⟨h.size, h.block⟩
instance Ex.drN {W0 W : World} {L : List Nat} {j : Nat} [h : Ex W0 L W] : Ex W0 L (W.drewN j) := ⟨h.size, h.block⟩
instance Ex.al {W0 W : World} {L : List Nat} {o : Obj} [h : Ex W0 L W] : Ex W0 L (W.alloc o) :=
  ⟨by rw [World.size_alloc]; exact Nat.le_succ_of_le h.size, fun k hk hL => by rw [heap_al_lt (Nat.lt_of_lt_of_le hk h.size)]; exact h.block k hk hL⟩
instance (priority := low) Ex.kp {W0 W W2 : World} {L : List Nat} [k : Kp1 W W2] [h : Ex W0 L W] : Ex W0 L W2 :=
  ⟨Nat.le_trans h.size k.out.size, fun j hj hL => by rw [k.out.block j (Nat.lt_of_lt_of_le hj h.size)]; exact h.block j hj hL⟩
instance Ex.st {W0 W : World} {L : List Nat} {q i : Nat} {x : Value} [n : InL q L] [h : Ex W0 L W] : Ex W0 L (W.setCell ⟨q, i, none⟩ x) :=
  ⟨by rw [World.size_setCell]; exact h.size, fun k hk hL => by
    simp only [World.setCell, Array.getElem?_modify]
    rw [if_neg (fun e => hL (by rw [← e]; exact n.out))]; exact h.block k hk hL⟩
instance (priority := low) Ex.st2 {W0 W : World} {L : List Nat} {q i : Nat} {x : Value} [n : Gg W0 q] [h : Ex W0 L W] : Ex W0 L (W.setCell ⟨q, i, none⟩ x) :=
  ⟨by rw [World.size_setCell]; exact h.size, fun k hk hL => by
    simp only [World.setCell, Array.getElem?_modify]
    rw [if_neg (fun e => by have := n.out; omega)]; exact h.block k hk hL⟩
instance (priority := low) Bx.ex {W0 W : World} {L : List Nat} {b : Nat} {t : TypeId} {l : List Value} [e : Ex1 W0 L W] [n : NoL b L] [h : Bx W0 b t l] : Bx W b t l := ⟨by
  rw [e.out.block b h.lt n.out]; exact h.out⟩
/-- A region that draws its order: what was there stays as it was, but for the blocks of L. -/
theorem region_cls {P : Program} {ops : Array Oper} {Q : Exit → Act → World → Prop} {id : Nat} {a : Act} {w : World} (hm : P.follows .mixedOrders = true) (L : List Nat)
    (h : Ex w L w.drew → wpAnyH P .any ops Q (Ex w L) ops.size (Array.replicate ops.size false) a w.drew) : (Code.region id ops true).wp P Q a w :=
  wp_region_held_drew (S := Ex w L) hm Ex.dr h
theorem Rd.soft {W : World} {v : Value} {l : List Nat} {q i : Nat} {x : Value} (h : Rd W v l) (hs : SoftB W q) : Rd (W.setCell ⟨q, i, none⟩ x) v l := by
  obtain ⟨a, cap, rfl, h1, h2, h3, h4⟩ := h
  refine ⟨a, cap, rfl, h1, h2, h3, fun h0 => ?_⟩
  obtain ⟨b, off, rfl, hcell⟩ := h4 h0
  refine ⟨b, off, rfl, fun j hj => ?_⟩
  rw [World.cell?_setCell_other _ _ _ _ (fun e => ?_)]
  · exact hcell j hj
  · have hc := hcell j hj
    injection e with e1 e2
    subst e1
    have := hs.no hc
    simp [isDigit32] at this
theorem Nn.soft {W : World} {v : Value} {n k : Nat} {q i : Nat} {x : Value} (h : Nn W v n k) (hs : SoftB W q) : Nn (W.setCell ⟨q, i, none⟩ x) v n k := ⟨h.1.soft hs, h.2⟩
theorem Rr.soft {W : World} {v : Value} {n k : Nat} {q i : Nat} {x : Value} (h : Rr W v n k) (hs : SoftB W q) : Rr (W.setCell ⟨q, i, none⟩ x) v n k := by
  obtain ⟨l, h1, h2⟩ := h
  exact ⟨l, h1.soft hs, h2⟩
def Za (W : World) (v : Value) (z : Int) (k : Nat) : Prop := ∃ g a l c, v = .agg #[.bool g, .slice a l c] ∧ Zz W g (.slice a l c) z k
def Ia (W : World) (v : Value) (z : Int) (k : Nat) : Prop := ∃ g a l c, v = .agg #[.bool g, .slice a l c] ∧ Zi W g (.slice a l c) z k
theorem Za.map {W W2 : World} {v : Value} {z : Int} {k : Nat} (h : Za W v z k) (f : ∀ g s, Zz W g s z k → Zz W2 g s z k) : Za W2 v z k := by
  obtain ⟨g, a, l, c, e, h⟩ := h; exact ⟨g, a, l, c, e, f _ _ h⟩
theorem Ia.map {W W2 : World} {v : Value} {z : Int} {k : Nat} (h : Ia W v z k) (f : ∀ g s, Zi W g s z k → Zi W2 g s z k) : Ia W2 v z k := by
  obtain ⟨g, a, l, c, e, h⟩ := h; exact ⟨g, a, l, c, e, f _ _ h⟩
/-- The slice v is the number n in normal form, of at most k digits. -/
class CN (W : World) (v : Value) (n : outParam Nat) (k : outParam Nat) : Prop where out : Nn W v n k
instance CN.al {W : World} {v : Value} {n : Nat} {k : Nat} {o : Obj} [h : CN W v n k] : CN (W.alloc o) v n k := ⟨h.out.keep (blw_one _ _)⟩
instance CN.dr {W : World} {v : Value} {n : Nat} {k : Nat} [h : CN W v n k] : CN W.drew v n k := ⟨h.out.keep (blw_drew (Below.refl _ _))⟩
instance CN.drN {W : World} {v : Value} {n : Nat} {k : Nat} {j : Nat} [h : CN W v n k] : CN (W.drewN j) v n k := ⟨h.out.keep (blw_drewN (Below.refl _ _) _)⟩
instance CN.kp {W W2 : World} {v : Value} {n : Nat} {k : Nat} [b : Kp1 W W2] [h : CN W v n k] : CN W2 v n k := ⟨h.out.keep (b.out)⟩
instance CN.st {W : World} {v : Value} {n : Nat} {k : Nat} {qb ib : Nat} {xv : Value} [b : SoftB W qb] [h : CN W v n k] : CN (W.setCell ⟨qb, ib, none⟩ xv) v n k := ⟨h.out.soft b⟩
/-- The slice v reads as the number n, in at most k digits. -/
class CR (W : World) (v : Value) (n : outParam Nat) (k : outParam Nat) : Prop where out : Rr W v n k
instance CR.al {W : World} {v : Value} {n : Nat} {k : Nat} {o : Obj} [h : CR W v n k] : CR (W.alloc o) v n k := ⟨h.out.keep (blw_one _ _)⟩
instance CR.dr {W : World} {v : Value} {n : Nat} {k : Nat} [h : CR W v n k] : CR W.drew v n k := ⟨h.out.keep (blw_drew (Below.refl _ _))⟩
instance CR.drN {W : World} {v : Value} {n : Nat} {k : Nat} {j : Nat} [h : CR W v n k] : CR (W.drewN j) v n k := ⟨h.out.keep (blw_drewN (Below.refl _ _) _)⟩
instance CR.kp {W W2 : World} {v : Value} {n : Nat} {k : Nat} [b : Kp1 W W2] [h : CR W v n k] : CR W2 v n k := ⟨h.out.keep (b.out)⟩
instance CR.st {W : World} {v : Value} {n : Nat} {k : Nat} {qb ib : Nat} {xv : Value} [b : SoftB W qb] [h : CR W v n k] : CR (W.setCell ⟨qb, ib, none⟩ xv) v n k := ⟨h.out.soft b⟩
/-- The struct v is the integer z in normal form. -/
class CZ (W : World) (v : Value) (z : outParam Int) (k : outParam Nat) : Prop where out : Za W v z k
instance CZ.al {W : World} {v : Value} {z : Int} {k : Nat} {o : Obj} [h : CZ W v z k] : CZ (W.alloc o) v z k := ⟨h.out.map fun _ _ h => h.keep (blw_one _ _)⟩
instance CZ.dr {W : World} {v : Value} {z : Int} {k : Nat} [h : CZ W v z k] : CZ W.drew v z k := ⟨h.out.map fun _ _ h => h.keep (blw_drew (Below.refl _ _))⟩
instance CZ.drN {W : World} {v : Value} {z : Int} {k : Nat} {j : Nat} [h : CZ W v z k] : CZ (W.drewN j) v z k := ⟨h.out.map fun _ _ h => h.keep (blw_drewN (Below.refl _ _) _)⟩
instance CZ.kp {W W2 : World} {v : Value} {z : Int} {k : Nat} [b : Kp1 W W2] [h : CZ W v z k] : CZ W2 v z k := ⟨h.out.map fun _ _ h => h.keep (b.out)⟩
instance CZ.st {W : World} {v : Value} {z : Int} {k : Nat} {qb ib : Nat} {xv : Value} [b : SoftB W qb] [h : CZ W v z k] : CZ (W.setCell ⟨qb, ib, none⟩ xv) v z k := ⟨h.out.map fun _ _ h => ⟨h.1, h.2.soft b⟩⟩
/-- The struct v reads as the integer z. -/
class CI (W : World) (v : Value) (z : outParam Int) (k : outParam Nat) : Prop where out : Ia W v z k
instance CI.al {W : World} {v : Value} {z : Int} {k : Nat} {o : Obj} [h : CI W v z k] : CI (W.alloc o) v z k := ⟨h.out.map fun _ _ h => h.keep (blw_one _ _)⟩
instance CI.dr {W : World} {v : Value} {z : Int} {k : Nat} [h : CI W v z k] : CI W.drew v z k := ⟨h.out.map fun _ _ h => h.keep (blw_drew (Below.refl _ _))⟩
instance CI.drN {W : World} {v : Value} {z : Int} {k : Nat} {j : Nat} [h : CI W v z k] : CI (W.drewN j) v z k := ⟨h.out.map fun _ _ h => h.keep (blw_drewN (Below.refl _ _) _)⟩
instance CI.kp {W W2 : World} {v : Value} {z : Int} {k : Nat} [b : Kp1 W W2] [h : CI W v z k] : CI W2 v z k := ⟨h.out.map fun _ _ h => h.keep (b.out)⟩
instance CI.st {W : World} {v : Value} {z : Int} {k : Nat} {qb ib : Nat} {xv : Value} [b : SoftB W qb] [h : CI W v z k] : CI (W.setCell ⟨qb, ib, none⟩ xv) v z k := ⟨h.out.map fun _ _ ⟨n, h1, h2⟩ => ⟨n, h1.soft b, h2⟩⟩
instance (priority := low) CR.of {W : World} {v : Value} {n k : Nat} [h : CN W v n k] : CR W v n k := ⟨h.out.rr⟩
instance (priority := low) CI.of {W : World} {v : Value} {z : Int} {k : Nat} [h : CZ W v z k] : CI W v z k := ⟨by
  obtain ⟨g, a, l, c, e, h⟩ := h.out
  exact ⟨g, a, l, c, e, h.zi⟩⟩
theorem Zz.pos {w : World} {s : Value} {n k : Nat} (h : Nn w s n k) : Zz w false s n k := ⟨by simp, by simpa using h⟩
instance CZ.pos {W : World} {a : Option Addr} {l c n k : Nat} [h : CN W (.slice a l c) n k] : CZ W (.agg #[.bool false, .slice a l c]) (n : Int) k := ⟨⟨_, _, _, _, rfl, Zz.pos h.out⟩⟩
instance (priority := low) CI.sg {W : World} {g : Bool} {a : Option Addr} {l c n k : Nat} [h : CR W (.slice a l c) n k] : CI W (.agg #[.bool g, .slice a l c]) (sgn g n) k := ⟨⟨_, _, _, _, rfl, ⟨n, h.out, rfl⟩⟩⟩
instance CN.nil {W : World} : CN W (.slice none 0 0) 0 0 := ⟨Nn.nil W 0⟩
instance CZ.zero {W : World} : CZ W (.agg #[.bool false, .slice none 0 0]) 0 0 := ⟨⟨_, _, _, _, rfl, Zz.zero W 0⟩⟩
instance CN.one {W : World} {b : Nat} [h : Sz W b] : CN (W.alloc (.cells #[.int .u32 1] 66)) (.slice (some ⟨b, 0, none⟩) 1 1) 1 1 := ⟨by rw [← h.out]; exact Nn.lit1⟩
/-- The end of a walk: the struct that lies in the result's box is returned. -/
theorem ret_bx {P : Program} {fn : Func} {R : Ending → World → Prop} {a : Act} {W : World} {b : Nat} {p : Tmp} {ty t : TypeId} {d : TypeDesc} {l l' : List Value} [hb : Bx W b t l] (hr : fn.results = #[.cell p ty])
    (hu : P.underlying ty = some d) (hd : (match d with | .struct _ | .array _ _ => true | _ => false) = true) (hi : (P.info? ty).map (·.size) = some l.length)
    (hp : a.tmps.getD p undef = .pointer (some ⟨b, 0, none⟩)) (hdf : a.defers = []) (hl : l = l') (hR : R (.returned (.agg l'.toArray)) W) : bodyPost P fn R .ret a W := by
  subst hl
  refine ret_c hr hp (loadVar_at W b ty l d hu hd hi (fun j hj => ?_)) hdf hR
  rw [cell_bx, List.getElem?_eq_getElem hj]
end Go.Proofs.Ytfdgglddldlpjaa

/- The reference's Common and Root (package bspregionnum). -/
namespace Go.Proofs.Ytfdgglddldlpjaa
open Go.RowKit

theorem gcd_len {m n k : Nat} (h1 : (nf m).length ≤ k) (h2 : (nf n).length ≤ k) : (nf (Nat.gcd m n)).length ≤ k := by
  by_cases h0 : m = 0
  · subst h0; rw [Nat.gcd_zero_left]; exact h2
  · exact len_le (Nat.gcd_le_left _ (Nat.pos_of_ne_zero h0)) h1
theorem root_start (m : Nat) : m < (0 + 2 ^ ((nbits m + 1) / 2 + 1)) * (0 + 2 ^ ((nbits m + 1) / 2 + 1)) := by
  rw [Nat.zero_add, ← Nat.pow_add]
  exact Nat.lt_of_lt_of_le (nbits_lt m) (Nat.pow_le_pow_right (by omega) (by omega))
theorem root_len {r m k : Nat} (h : r * r ≤ m) (hk : (nf m).length ≤ k) : (nf r).length ≤ k := by
  refine len_le ?_ hk
  rcases Nat.eq_zero_or_pos r with h0 | h0
  · omega
  · exact Nat.le_trans (Nat.le_mul_of_pos_left r h0) h
/-- A root is returned. -/
def RetRoot (w : World) (m k : Nat) (e : Ending) (w' : World) : Prop := ∃ r, IsRoot m r ∧ RetN w r k e w'
end Go.Proofs.Ytfdgglddldlpjaa

/- The reference's integers and their conversions: contracts of bspregionnum.Make .. Floor and of bspregionref01. printed by a small program (mkint3.py). -/
namespace Go.Proofs.Ytfdgglddldlpjaa
open Go.RowKit

theorem sgn_not {x : Int} : sgn (!decide (x < 0)) x.natAbs = -x := by
  unfold sgn
  by_cases h : x < 0 <;> simp [h] <;> omega
theorem sgn_mul {x y : Int} : sgn (decide (x < 0) != decide (y < 0)) (x.natAbs * y.natAbs) = x * y := by
  have h : sgn (decide (x < 0) != decide (y < 0)) (x.natAbs * y.natAbs) = sgn (decide (x < 0)) x.natAbs * sgn (decide (y < 0)) y.natAbs := by
    cases decide (x < 0) <;> cases decide (y < 0) <;> simp [sgn, Int.neg_mul, Int.mul_neg]
  rw [h, sgn_of, sgn_of]
theorem sgn_add {x y : Int} (h : decide (x < 0) = decide (y < 0)) : sgn (decide (x < 0)) (x.natAbs + y.natAbs) = x + y := by
  have h' : sgn (decide (x < 0)) (x.natAbs + y.natAbs) = sgn (decide (x < 0)) x.natAbs + sgn (decide (y < 0)) y.natAbs := by
    rw [h]; cases decide (y < 0) <;> simp [sgn] <;> omega
  rw [h', sgn_of, sgn_of]
theorem sgn_less {x y : Int} (h : decide (x < 0) ≠ decide (y < 0)) (hl : y.natAbs ≤ x.natAbs) : sgn (decide (x < 0)) (x.natAbs - y.natAbs) = x + y := by
  have h' : sgn (decide (x < 0)) (x.natAbs - y.natAbs) = sgn (decide (x < 0)) x.natAbs + sgn (decide (y < 0)) y.natAbs := by
    revert h; cases decide (x < 0) <;> cases decide (y < 0) <;> simp [sgn] <;> omega
  rw [h', sgn_of, sgn_of]
theorem cmpN_ltB {m n : Nat} (h : m < n) : (cmpN m n < 0) ↔ True := by rw [cmpN_lt h]; decide
theorem cmpN_geB {m n : Nat} (h : n ≤ m) : (cmpN m n < 0) ↔ False := by
  rcases Nat.lt_or_ge n m with h' | h'
  · rw [cmpN_gt h']; decide
  · rw [cmpN_eq (by omega)]; decide
end Go.Proofs.Ytfdgglddldlpjaa
