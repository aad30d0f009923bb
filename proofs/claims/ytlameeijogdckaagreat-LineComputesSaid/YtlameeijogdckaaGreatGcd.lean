/-
  Contract of nat.Gcd: the greatest common divisor.
-/
import Derived.Test.YtlameeijogdckaaGreatLong
namespace Go.Proofs.YtlameeijogdckaaGreat
open Go.RowKit

theorem gcd_small {m : Nat} (h : (nf m).length ≤ 2) : m < 18446744073709551616 := by
  have := lt_of_nf_len h
  omega
theorem gcd_step {p q g : Nat} (hq : q ≠ 0) (h : Nat.gcd p q = g) : Nat.gcd q (p % q) = g ∧ p % q < q := by
  refine ⟨?_, Nat.mod_lt _ (by omega)⟩
  rw [← h, Nat.gcd_comm p q, Nat.gcd_rec q p, Nat.gcd_comm]
set_option maxRecDepth 100000 in
set_option maxHeartbeats 2000000 in
theorem gcd_any (w : World) (u v : Value) (la lb : List Nat) (hu : Rd w u la) (hv : Rd w v lb) (hla : la.length ≤ 1000000) (hlb : lb.length ≤ 1000000) :
    Calls Tryz.prog 202 #[u, v] w fun e w' => ∃ z, e = .returned z ∧ Own w' w.heap.size z (nf (Nat.gcd (val la) (val lb))) ∧ Below w.heap.size w w' := by
  have hna := nf_val_len hu.dig
  have hnb := nf_val_len hv.dig
  have CA := Lib.hid (norm_any _ _ _ hu hla)
  have CB := Lib.hid (fun (w1 : World) (b : Below w.heap.size w w1) => norm_any w1 _ _ (hv.keep b) hlb)
  have hLA := Lib.hid (Nat.le_trans hna hla)
  have hLB := Lib.hid (Nat.le_trans hnb hlb)
  clear hu hv hna hnb hla hlb
  generalize val la = m at *
  generalize val lb = n at *
  go_enter Tryz.func202, Tryz.ntmps202
  go_wp2_with fail
  refine CA.out.mono ?_
  rintro e w1 ⟨x, rfl, hx, b1⟩
  go_wp2_with fail
  refine (CB.out _ b1).mono ?_
  rintro e w2 ⟨y, rfl, hy, b2⟩
  have hX := Lib.hid (hx.keep b2)
  have hY := Lib.hid (hy.mono b1.size)
  have hB := Lib.hid (blw_trans b1 b2)
  clear hx hy b1 b2 CA CB
  go_wp2_with fail
  go_loopw [0, 1] (fun x y wr => ∃ p q : Nat, Hid (Own wr w.heap.size x (nf p)) ∧ Hid (Own wr w.heap.size y (nf q)) ∧ Hid (Below w.heap.size w wr) ∧ Hid (Nat.gcd p q = Nat.gcd m n) ∧ Hid ((nf p).length ≤ 1000000) ∧ Hid ((nf q).length ≤ 1000000)) (fun _ y wr => rdVal wr y)
  case atStart => exact ⟨m, n, hX, hY, hB, rfl, hLA, hLB⟩
  case round =>
    obtain ⟨p, q, hP, hQ, hW, hG, hlp, hlq⟩ := hrel
    clear hX hY hB hLA hLB
    obtain ⟨ax, cx, rfl, hcx, hcx2, _, _⟩ := hP.out.rd
    obtain ⟨ay, cy, rfl, hcy, hcy2, _, _⟩ := hQ.out.rd
    by_cases hbig : 2 < (nf p).length ∨ 2 < (nf q).length
    · by_cases hq : q = 0
      · have h0 : (nf q).length = 0 := by rw [hq]; rfl
        have h1 : 2 < (nf p).length := by omega
        have HE : Hid (p = Nat.gcd m n) := by show _ = _; rw [← hG.out, hq, Nat.gcd_zero_right]
        have hb : (((nf q).length : Int) == 0) = true := by rw [h0]; rfl
        clear hbig hq h0
        go_wp2
        go_ret
        exact ⟨_, rfl, by rw [← HE.out]; exact hP.out, hW.out⟩
      · have hp := nf_len_pos hq
        have hb : (((nf q).length : Int) == 0) = false := by rw [beq_eq_false_iff_ne]; omega
        obtain ⟨g1, g2⟩ := gcd_step hq hG.out
        have HG := Lib.hid g1
        have HL := Lib.hid g2
        have HI := Lib.hid (show (if q = 0 then 0 else p % q) = p % q from if_neg hq)
        clear g1 g2 hq hp
        by_cases h1 : 2 < (nf p).length
        all_goals
          go_wp2_with fail
          refine (divmod_any _ _ _ _ _ hP.out.rd hQ.out.rd hlp.out (.inr long_any)).mono ?_
          rintro e w3 ⟨qq, r, rfl, _, hr, b3⟩
          simp only [val_nf] at hr
          rw [HI.out] at hr
          have HR := Lib.hid (hr.mono hW.out.size)
          have hV : rdVal wr (.slice ay (nf q).length cy) = q := by rw [rdVal_eq hQ.out.rd, val_nf]
          have hV2 : rdVal w3 r = p % q := by rw [rdVal_eq hr.rd, val_nf]
          have HV := Lib.hid hV
          have HV2 := Lib.hid hV2
          have HB3 := Lib.hid b3
          clear hr hV hV2 b3
          go_wp2_with fail
          go_roundw
          case rel => exact ⟨q, p % q, hQ.out.keep HB3.out, HR, blw_trans hW.out HB3.out, HG, hlq, len_le (Nat.mod_le _ _) hlp.out⟩
          case measure => rw [HV.out, HV2.out]; exact HL.out
    · have h1 : (nf p).length ≤ 2 := by omega
      have h2 : (nf q).length ≤ 2 := by omega
      have hp := gcd_small h1
      have hq := gcd_small h2
      clear hbig
      go_wp2_with fail
      refine (uint_any _ _ _ hP.out.rd).mono ?_
      rintro e w3 ⟨rfl, rfl⟩
      rw [val_nf, uintV_lt hp]
      go_wp2_with fail
      refine (uint_any _ _ _ hQ.out.rd).mono ?_
      rintro e w3 ⟨rfl, rfl⟩
      rw [val_nf, uintV_lt hq]
      go_wp2_with fail
      go_loopw [8, 10] (fun x y wx => ∃ p q : Nat, x = .int .u64 p ∧ y = .int .u64 q ∧ p < 18446744073709551616 ∧ q < 18446744073709551616 ∧ Hid (Below w.heap.size w wx) ∧ Hid (Nat.gcd p q = Nat.gcd m n)) (fun _ y _ => (intOf y).toNat)
      case atStart => exact ⟨p, q, rfl, rfl, hp, hq, hW, hG⟩
      case round =>
        obtain ⟨p2, q2, rfl, rfl, hp2, hq2, hW2, hG2⟩ := hrel
        by_cases h0 : q2 = 0
        · have HE : Hid (p2 = Nat.gcd m n) := by show _ = _; rw [← hG2.out, h0, Nat.gcd_zero_right]
          have hb : (((q2 : Nat) : Int) != 0) = false := by rw [h0]; rfl
          clear h0
          go_wp2_with fail
          refine (fromUint_any _ p2 hp2).mono ?_
          rintro e w4 ⟨z, rfl, hz, b4⟩
          go_wp2
          go_ret
          exact ⟨_, rfl, by rw [← HE.out]; exact hz.mono hW2.out.size, blw_trans hW2.out b4⟩
        · obtain ⟨g1, g2⟩ := gcd_step h0 hG2.out
          have HG := Lib.hid g1
          have HL := Lib.hid g2
          have hb : (((q2 : Nat) : Int) != 0) = true := by rw [bne_iff_ne]; omega
          have hb0 : (((q2 : Nat) : Int) == 0) = false := by rw [beq_eq_false_iff_ne]; omega
          have e2 : (p2 : Int) % (q2 : Int) = ((p2 % q2 : Nat) : Int) := by rw [Int.natCast_emod]
          have E2 := Lib.hid e2
          have HQ1 : Hid ((1 : Int) ≤ (q2 : Int)) := by show _ ≤ _; omega
          have r1 : (0 : Int) ≤ (p2 : Int) % (q2 : Int) := by rw [e2]; exact Int.natCast_nonneg _
          have r2 : (p2 : Int) % (q2 : Int) < 18446744073709551616 := by rw [e2]; omega
          clear g1 g2 e2 h0
          go_wp2_with fail
          clear hb hb0
          have hq1 : (1 : Int) ≤ (q2 : Int) := HQ1.out
          have hq0 : ((q2 : Int) == 0) = false := by rw [beq_eq_false_iff_ne]; omega
          have hqz : ¬ (q2 = 0) := by omega
          go_quiet (fail)
          go_wp2_with fail
          go_roundw
          case rel => rw [E2.out]; exact ⟨q2, p2 % q2, rfl, rfl, hq2, Nat.lt_trans HL.out hq2, blw_drewN hW2.out _, HG⟩
          case measure => rw [E2.out]; have := HL.out; simp [intOf]; omega
end Go.Proofs.YtlameeijogdckaaGreat
