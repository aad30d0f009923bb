/-
  Machine words of package frac: the absolute value, the greatest common divisor, the product that is refused where it is too great.
-/
import Derived.Test.YtlameeijogdckaaGreatTape
import Derived.Lib.Hide
import Derived.Deep.QuietTactic
import Derived.BigQuiet
import Derived.Shelf.Bits.Mul64
namespace Go.Proofs.YtlameeijogdckaaGreat
theorem gcd_step' {p q g : Nat} (hq : q ≠ 0) (h : Nat.gcd p q = g) : Nat.gcd q (p % q) = g ∧ p % q < q := by
  refine ⟨?_, Nat.mod_lt _ (by omega)⟩
  rw [← h, Nat.gcd_comm p q, Nat.gcd_rec q p, Nat.gcd_comm]
open Go.RowKit
set_option maxRecDepth 100000 in
theorem absX {w : World} {x : Int} (b1 : -4611686018427387904 < x) (b2 : x < 4611686018427387904) :
    Calls Tryz.prog 211 #[.int .i64 x] w (fun e w' => e = .returned (.int .u64 (x.natAbs : Int)) ∧ w = w') := by
  by_cases h : x < 0
  · have e : ((x.natAbs : Nat) : Int) = -x := by omega
    rw [e]
    clear e
    have h1 : 0 ≤ -x := by omega
    have h2 : -x < 4611686018427387904 := by omega
    go_enter Tryz.func211, Tryz.ntmps211
    go_wp2
    go_ret
    exact ⟨rfl, rfl⟩
  · have e : ((x.natAbs : Nat) : Int) = x := by omega
    rw [e]
    clear e
    have h1 : 0 ≤ x := by omega
    go_enter Tryz.func211, Tryz.ntmps211
    go_wp2
    go_ret
    exact ⟨rfl, rfl⟩
set_option maxRecDepth 100000 in
set_option maxHeartbeats 1000000 in
theorem mul64X {w : World} {x y : Nat} (hx : x < 18446744073709551616) (hy : y < 18446744073709551616) :
    Calls Tryz.prog 235 #[.int .u64 x, .int .u64 y] w (fun e w' => e = .returned (.tuple #[.int .u64 ((x * y / 18446744073709551616 : Nat) : Int), .int .u64 ((x * y % 18446744073709551616 : Nat) : Int)]) ∧ w = w') := by
  obtain ⟨bd, bt, bw, hhi⟩ := Lib.mul64_hi x y hx hy
  have ba := Lib.half_mul_le (a := x / 4294967296) (b := y / 4294967296) (by omega) (by omega)
  have bb := Lib.half_mul_le (a := x / 4294967296) (b := y % 4294967296) (by omega) (by omega)
  have bc := Lib.half_mul_le (a := x % 4294967296) (b := y / 4294967296) (by omega) (by omega)
  have ba' : x / 4294967296 * (y / 4294967296) < 18446744073709551616 := by omega
  have bb' : x / 4294967296 * (y % 4294967296) < 18446744073709551616 := by omega
  have bc' : x % 4294967296 * (y / 4294967296) < 18446744073709551616 := by omega
  have bh1 : x / 4294967296 * (y / 4294967296) + (x / 4294967296 * (y % 4294967296) + x % 4294967296 * (y % 4294967296) / 4294967296) / 4294967296 < 18446744073709551616 := by omega
  have bh : x / 4294967296 * (y / 4294967296) + (x / 4294967296 * (y % 4294967296) + x % 4294967296 * (y % 4294967296) / 4294967296) / 4294967296 + ((x / 4294967296 * (y % 4294967296) + x % 4294967296 * (y % 4294967296) / 4294967296) % 4294967296 + x % 4294967296 * (y / 4294967296)) / 4294967296 < 18446744073709551616 := by omega
  have HHI := Lib.hid hhi
  clear hhi
  go_enter Tryz.func235, Tryz.ntmps235
  go_wp2
  simp only [Mul64.maskN x hx, Mul64.maskN y hy, Mul64.divN, Mul64.mulN, Mul64.addN, Mul64.wrapN _ bd, Mul64.wrapN _ bb', Mul64.wrapN _ bt, Mul64.maskN _ bt, Mul64.wrapN _ bc', Mul64.wrapN _ bw, Mul64.wrapN _ ba', Mul64.wrapN _ bh1, Mul64.wrapN _ bh, Mul64.wrapM (x * y)]
  rw [HHI.out]
  go_ret2
  exact ⟨rfl, rfl⟩
set_option maxRecDepth 100000 in
set_option maxHeartbeats 1000000 in
theorem gcd64X {w : World} {m n : Nat} (hm : m < 18446744073709551616) (hn : n < 18446744073709551616) :
    Calls Tryz.prog 210 #[.int .u64 m, .int .u64 n] w (fun e w' => e = .returned (.int .u64 (Nat.gcd m n : Nat)) ∧ Below w.heap.size w w') := by
  go_enter Tryz.func210, Tryz.ntmps210
  go_wp2_with fail
  go_loopw [0, 1] (fun x y wx => ∃ p q : Nat, x = .int .u64 p ∧ y = .int .u64 q ∧ p < 18446744073709551616 ∧ q < 18446744073709551616 ∧ Hid (Below w.heap.size w wx) ∧ Hid (Nat.gcd p q = Nat.gcd m n)) (fun _ y _ => (intOf y).toNat)
  case atStart => exact ⟨m, n, rfl, rfl, hm, hn, Below.refl _ _, rfl⟩
  case round =>
    obtain ⟨p2, q2, rfl, rfl, hp2, hq2, hW2, hG2⟩ := hrel
    by_cases h0 : q2 = 0
    · have HE : Hid (p2 = Nat.gcd m n) := by show _ = _; rw [← hG2.out, h0, Nat.gcd_zero_right]
      have hb : (((q2 : Nat) : Int) != 0) = false := by rw [h0]; rfl
      clear h0
      go_wp2
      go_ret
      exact ⟨by rw [← HE.out]; rfl, hW2.out⟩
    · obtain ⟨g1, g2⟩ := gcd_step' h0 hG2.out
      have HG := Lib.hid g1
      have HL := Lib.hid g2
      have hb : (((q2 : Nat) : Int) != 0) = true := by rw [bne_iff_ne]; omega
      have hb0 : (((q2 : Nat) : Int) == 0) = false := by rw [beq_eq_false_iff_ne]; omega
      have e2 : (p2 : Int) % (q2 : Int) = ((p2 % q2 : Nat) : Int) := by rw [Int.natCast_emod]
      have E2 := Lib.hid e2
      have HQ1 : Hid ((1 : Int) ≤ (q2 : Int)) := by show _ ≤ _; omega
      have r1 : (0 : Int) ≤ (p2 : Int) % (q2 : Int) := by rw [e2]; exact Int.natCast_nonneg _
      have r2 : (p2 : Int) % (q2 : Int) < 18446744073709551616 := by rw [e2]; omega
      clear g1 g2 e2 h0
      go_wp2_with fail
      clear hb hb0
      have hq1 : (1 : Int) ≤ (q2 : Int) := HQ1.out
      have hq0 : ((q2 : Int) == 0) = false := by rw [beq_eq_false_iff_ne]; omega
      have hqz : ¬ (q2 = 0) := by omega
      go_quiet (fail)
      go_wp2_with fail
      go_roundw
      case rel => rw [E2.out]; exact ⟨q2, p2 % q2, rfl, rfl, hq2, Nat.lt_trans HL.out hq2, blw_drewN hW2.out _, HG⟩
      case measure => rw [E2.out]; have := HL.out; simp [intOf]; omega
theorem gcd64C {w : World} {m n g : Nat} (hm : m < 18446744073709551616) (hn : n < 18446744073709551616) (h : Hid (Nat.gcd m n = g)) :
    Calls Tryz.prog 210 #[.int .u64 m, .int .u64 n] w (fun e w' => e = .returned (.int .u64 (g : Nat)) ∧ Below w.heap.size w w') := by
  have := @gcd64X w m n hm hn
  rw [h.out] at this
  exact this
/-- What times returns. -/
def tOk (a b : Int) : Bool := decide ((a * b).natAbs < 4611686018427387904)
def tVal (a b : Int) : Int := if (a * b).natAbs < 4611686018427387904 then a * b else 0
theorem tVal_ok {a b : Int} (h : (a * b).natAbs < 4611686018427387904) : tVal a b = a * b ∧ tOk a b = true := ⟨if_pos h, by simp [tOk, h]⟩
theorem tVal_no {a b : Int} (h : ¬ (a * b).natAbs < 4611686018427387904) : tVal a b = 0 ∧ tOk a b = false := ⟨if_neg h, by simp [tOk, h]⟩
theorem sg_mul {a b : Int} (h : (decide (a < 0) != decide (b < 0)) = true) : a * b = -((a.natAbs * b.natAbs : Nat) : Int) := by
  rw [Int.natCast_mul]
  by_cases h1 : a < 0 <;> by_cases h2 : b < 0 <;> simp [h1, h2] at h
  · rw [show ((a.natAbs : Nat) : Int) = -a by omega, show ((b.natAbs : Nat) : Int) = b by omega, Int.neg_mul, Int.neg_neg]
  · rw [show ((a.natAbs : Nat) : Int) = a by omega, show ((b.natAbs : Nat) : Int) = -b by omega, Int.mul_neg, Int.neg_neg]
theorem sg_mul2 {a b : Int} (h : (decide (a < 0) != decide (b < 0)) = false) : a * b = ((a.natAbs * b.natAbs : Nat) : Int) := by
  rw [Int.natCast_mul]
  by_cases h1 : a < 0 <;> by_cases h2 : b < 0 <;> simp [h1, h2] at h
  · rw [show ((a.natAbs : Nat) : Int) = -a by omega, show ((b.natAbs : Nat) : Int) = -b by omega, Int.neg_mul_neg]
  · rw [show ((a.natAbs : Nat) : Int) = a by omega, show ((b.natAbs : Nat) : Int) = b by omega]
set_option maxRecDepth 100000 in
set_option maxHeartbeats 1000000 in
theorem timesX {w : World} {a b : Int} (a1 : -4611686018427387904 < a) (a2 : a < 4611686018427387904) (b1 : -4611686018427387904 < b) (b2 : b < 4611686018427387904) :
    Calls Tryz.prog 220 #[.int .i64 a, .int .i64 b] w (fun e w' => e = .returned (.tuple #[.int .i64 (tVal a b), .bool (tOk a b)]) ∧ w = w') := by
  have CM := Lib.hid (@mul64X w a.natAbs b.natAbs (by omega) (by omega))
  have CA := Lib.hid (@absX w a a1 a2)
  have CB := Lib.hid (@absX w b b1 b2)
  have EM : (a * b).natAbs = a.natAbs * b.natAbs := Int.natAbs_mul a b
  by_cases h : a.natAbs * b.natAbs < 4611686018427387904
  · obtain ⟨e1, e2⟩ := tVal_ok (a := a) (b := b) (by omega)
    rw [e1, e2]
    have d1 : a.natAbs * b.natAbs / 18446744073709551616 = 0 := by omega
    have d2 : a.natAbs * b.natAbs % 18446744073709551616 = a.natAbs * b.natAbs := by omega
    rw [d1, d2] at CM
    by_cases hs : (decide (a < 0) != decide (b < 0)) = true
    · rw [sg_mul hs]
      have hs2 : (decide (a < 0) == decide (b < 0)) = false := by simpa [bne] using hs
      have hs3 : (!(decide (a < 0) == decide (b < 0))) = true := hs
      clear EM e1 e2 d1 d2
      obtain ⟨M, hM⟩ : ∃ M : Int, M = ((a.natAbs * b.natAbs : Nat) : Int) := ⟨_, rfl⟩
      have m1 : 0 ≤ M := by omega
      have m2 : M < 4611686018427387904 := by omega
      rw [← hM] at CM ⊢
      clear hM h
      go_enter Tryz.func220, Tryz.ntmps220
      go_wp2_with (first | (go_at_call 211; first | ((with_reducible refine CA.out.mono ?_); rintro e w' ⟨rfl, rfl⟩) | ((with_reducible refine CB.out.mono ?_); rintro e w' ⟨rfl, rfl⟩)) | (go_at_call 235; (with_reducible refine CM.out.mono ?_); rintro e w' ⟨rfl, rfl⟩))
      go_ret2
      exact ⟨rfl, rfl⟩
    · have hs' : (decide (a < 0) != decide (b < 0)) = false := by simpa using hs
      rw [sg_mul2 hs']
      have hs2 : (decide (a < 0) == decide (b < 0)) = true := by simpa [bne] using hs'
      have hs3 : (!(decide (a < 0) == decide (b < 0))) = false := hs'
      clear EM e1 e2 d1 d2 hs
      obtain ⟨M, hM⟩ : ∃ M : Int, M = ((a.natAbs * b.natAbs : Nat) : Int) := ⟨_, rfl⟩
      have m1 : 0 ≤ M := by omega
      have m2 : M < 4611686018427387904 := by omega
      rw [← hM] at CM ⊢
      clear hM h
      go_enter Tryz.func220, Tryz.ntmps220
      go_wp2_with (first | (go_at_call 211; first | ((with_reducible refine CA.out.mono ?_); rintro e w' ⟨rfl, rfl⟩) | ((with_reducible refine CB.out.mono ?_); rintro e w' ⟨rfl, rfl⟩)) | (go_at_call 235; (with_reducible refine CM.out.mono ?_); rintro e w' ⟨rfl, rfl⟩))
      go_ret2
      exact ⟨rfl, rfl⟩
  · obtain ⟨e1, e2⟩ := tVal_no (a := a) (b := b) (by omega)
    rw [e1, e2]
    clear EM e1 e2
    by_cases h2 : a.natAbs * b.natAbs < 18446744073709551616
    · have d1 : a.natAbs * b.natAbs / 18446744073709551616 = 0 := by omega
      have d2 : a.natAbs * b.natAbs % 18446744073709551616 = a.natAbs * b.natAbs := by omega
      rw [d1, d2] at CM
      obtain ⟨M, hM⟩ : ∃ M : Int, M = ((a.natAbs * b.natAbs : Nat) : Int) := ⟨_, rfl⟩
      have m1 : 4611686018427387904 ≤ M := by omega
      have m2 : M < 18446744073709551616 := by omega
      rw [← hM] at CM
      clear d1 d2 hM h h2
      go_enter Tryz.func220, Tryz.ntmps220
      go_wp2_with (first | (go_at_call 211; first | ((with_reducible refine CA.out.mono ?_); rintro e w' ⟨rfl, rfl⟩) | ((with_reducible refine CB.out.mono ?_); rintro e w' ⟨rfl, rfl⟩)) | (go_at_call 235; (with_reducible refine CM.out.mono ?_); rintro e w' ⟨rfl, rfl⟩))
      go_ret2
      exact ⟨rfl, rfl⟩
    · have d1 : 0 < a.natAbs * b.natAbs / 18446744073709551616 := by omega
      generalize a.natAbs * b.natAbs / 18446744073709551616 = hi at *
      generalize a.natAbs * b.natAbs % 18446744073709551616 = lo at *
      have d2 : ((hi : Int) != 0) = true := by rw [bne_iff_ne]; omega
      clear h h2
      go_enter Tryz.func220, Tryz.ntmps220
      go_wp2_with (first | (go_at_call 211; first | ((with_reducible refine CA.out.mono ?_); rintro e w' ⟨rfl, rfl⟩) | ((with_reducible refine CB.out.mono ?_); rintro e w' ⟨rfl, rfl⟩)) | (go_at_call 235; (with_reducible refine CM.out.mono ?_); rintro e w' ⟨rfl, rfl⟩))
      go_ret2
      exact ⟨rfl, rfl⟩
end Go.Proofs.YtlameeijogdckaaGreat
