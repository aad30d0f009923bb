/-
  Texts of this claim, joined: Gcd, Word, Mem, Int, Int2.
-/
import Derived.Test.YtdlnoeegboapkaaGreatDoorBD
import Derived.Test.YtdlnoeegboapkaaGreatDoorBC
import Derived.Test.YtdlnoeegboapkaaGreatDoorBB
import Derived.Deep.RegionHeld3
import Derived.Deep.RegionWith
import Derived.Laws.IdiomCopy
/- Contract of nat.Gcd: the greatest common divisor. -/
namespace Go.Proofs.YtdlnoeegboapkaaGreatDoor
open Go.RowKit
set_option maxRecDepth 100000
set_option maxHeartbeats 40000000
set_option synthInstance.maxSize 100000
set_option synthInstance.maxHeartbeats 1000000

theorem gcd_small {m : Nat} (h : (nf m).length ≤ 2) : m < 18446744073709551616 := by
  have := lt_of_nf_len h
  omega
theorem gcd_step {p q g : Nat} (hq : q ≠ 0) (h : Nat.gcd p q = g) : Nat.gcd q (p % q) = g ∧ p % q < q := by
  refine ⟨?_, Nat.mod_lt _ (by omega)⟩
  rw [← h, Nat.gcd_comm p q, Nat.gcd_rec q p, Nat.gcd_comm]
theorem gcd_any (w : World) (u v : Value) (la lb : List Nat) (hu : Rd w u la) (hv : Rd w v lb) (hla : la.length ≤ 1000000) (hlb : lb.length ≤ 1000000) :
    Calls Tryz.prog 249 #[u, v] w fun e w' => ∃ z, e = .returned z ∧ Own w' w.heap.size z (nf (Nat.gcd (val la) (val lb))) ∧ Below w.heap.size w w' := by
  have hna := nf_val_len hu.dig
  have hnb := nf_val_len hv.dig
  have CA := Lib.hid (norm_any _ _ _ hu hla)
  have CB := Lib.hid (fun (w1 : World) (b : Below w.heap.size w w1) => norm_any w1 _ _ (hv.keep b) hlb)
  have hLA := Lib.hid (Nat.le_trans hna hla)
  have hLB := Lib.hid (Nat.le_trans hnb hlb)
  clear hu hv hna hnb hla hlb
  generalize val la = m at *
  generalize val lb = n at *
  go_enter Tryz.func249, Tryz.ntmps249
  go_wp2_with fail
  refine CA.out.mono ?_
  rintro e w1 ⟨x, rfl, hx, b1⟩
  go_wp2_with fail
  refine (CB.out _ b1).mono ?_
  rintro e w2 ⟨y, rfl, hy, b2⟩
  have hX := Lib.hid (hx.keep b2)
  have hY := Lib.hid (hy.mono b1.size)
  have hB := Lib.hid (blw_trans b1 b2)
  clear hx hy b1 b2 CA CB
  go_wp2_with fail
  go_loopw [0, 1] (fun x y wr => ∃ p q : Nat, Hid (Own wr w.heap.size x (nf p)) ∧ Hid (Own wr w.heap.size y (nf q)) ∧ Hid (Below w.heap.size w wr) ∧ Hid (Nat.gcd p q = Nat.gcd m n) ∧ Hid ((nf p).length ≤ 1000000) ∧ Hid ((nf q).length ≤ 1000000)) (fun _ y wr => rdVal wr y)
  case atStart => exact ⟨m, n, hX, hY, hB, rfl, hLA, hLB⟩
  case round =>
    obtain ⟨p, q, hP, hQ, hW, hG, hlp, hlq⟩ := hrel
    clear hX hY hB hLA hLB
    obtain ⟨ax, cx, rfl, hcx, hcx2, _, _⟩ := hP.out.rd
    obtain ⟨ay, cy, rfl, hcy, hcy2, _, _⟩ := hQ.out.rd
    by_cases hbig : 2 < (nf p).length ∨ 2 < (nf q).length
    · by_cases hq : q = 0
      · have h0 : (nf q).length = 0 := by rw [hq]; rfl
        have h1 : 2 < (nf p).length := by omega
        have HE : Hid (p = Nat.gcd m n) := by show _ = _; rw [← hG.out, hq, Nat.gcd_zero_right]
        have hb : (((nf q).length : Int) == 0) = true := by rw [h0]; rfl
        clear hbig hq h0
        go_wp2
        go_ret
        exact ⟨_, rfl, by rw [← HE.out]; exact hP.out, hW.out⟩
      · have hp := nf_len_pos hq
        have hb : (((nf q).length : Int) == 0) = false := by rw [beq_eq_false_iff_ne]; omega
        obtain ⟨g1, g2⟩ := gcd_step hq hG.out
        have HG := Lib.hid g1
        have HL := Lib.hid g2
        have HI := Lib.hid (show (if q = 0 then 0 else p % q) = p % q from if_neg hq)
        clear g1 g2 hq hp
        by_cases h1 : 2 < (nf p).length
        all_goals
          go_wp2_with fail
          refine (divmod_any _ _ _ _ _ hP.out.rd hQ.out.rd hlp.out (.inr long_any)).mono ?_
          rintro e w3 ⟨qq, r, rfl, _, hr, b3⟩
          simp only [val_nf] at hr
          rw [HI.out] at hr
          have HR := Lib.hid (hr.mono hW.out.size)
          have hV : rdVal wr (.slice ay (nf q).length cy) = q := by rw [rdVal_eq hQ.out.rd, val_nf]
          have hV2 : rdVal w3 r = p % q := by rw [rdVal_eq hr.rd, val_nf]
          have HV := Lib.hid hV
          have HV2 := Lib.hid hV2
          have HB3 := Lib.hid b3
          clear hr hV hV2 b3
          go_wp2_with fail
          go_roundw
          case rel => exact ⟨q, p % q, hQ.out.keep HB3.out, HR, blw_trans hW.out HB3.out, HG, hlq, len_le (Nat.mod_le _ _) hlp.out⟩
          case measure => rw [HV.out, HV2.out]; exact HL.out
    · have h1 : (nf p).length ≤ 2 := by omega
      have h2 : (nf q).length ≤ 2 := by omega
      have hp := gcd_small h1
      have hq := gcd_small h2
      clear hbig
      go_wp2_with fail
      refine (uint_any _ _ _ hP.out.rd).mono ?_
      rintro e w3 ⟨rfl, rfl⟩
      rw [val_nf, uintV_lt hp]
      go_wp2_with fail
      refine (uint_any _ _ _ hQ.out.rd).mono ?_
      rintro e w3 ⟨rfl, rfl⟩
      rw [val_nf, uintV_lt hq]
      go_wp2_with fail
      go_loopw [8, 10] (fun x y wx => ∃ p q : Nat, x = .int .u64 p ∧ y = .int .u64 q ∧ p < 18446744073709551616 ∧ q < 18446744073709551616 ∧ Hid (Below w.heap.size w wx) ∧ Hid (Nat.gcd p q = Nat.gcd m n)) (fun _ y _ => (intOf y).toNat)
      case atStart => exact ⟨p, q, rfl, rfl, hp, hq, hW, hG⟩
      case round =>
        obtain ⟨p2, q2, rfl, rfl, hp2, hq2, hW2, hG2⟩ := hrel
        by_cases h0 : q2 = 0
        · have HE : Hid (p2 = Nat.gcd m n) := by show _ = _; rw [← hG2.out, h0, Nat.gcd_zero_right]
          have hb : (((q2 : Nat) : Int) != 0) = false := by rw [h0]; rfl
          clear h0
          go_wp2_with fail
          refine (fromUint_any _ p2 hp2).mono ?_
          rintro e w4 ⟨z, rfl, hz, b4⟩
          go_wp2
          go_ret
          exact ⟨_, rfl, by rw [← HE.out]; exact hz.mono hW2.out.size, blw_trans hW2.out b4⟩
        · obtain ⟨g1, g2⟩ := gcd_step h0 hG2.out
          have HG := Lib.hid g1
          have HL := Lib.hid g2
          have hb : (((q2 : Nat) : Int) != 0) = true := by rw [bne_iff_ne]; omega
          have hb0 : (((q2 : Nat) : Int) == 0) = false := by rw [beq_eq_false_iff_ne]; omega
          have e2 : (p2 : Int) % (q2 : Int) = ((p2 % q2 : Nat) : Int) := by rw [Int.natCast_emod]
          have E2 := Lib.hid e2
          have HQ1 : Hid ((1 : Int) ≤ (q2 : Int)) := by show _ ≤ _; omega
          have r1 : (0 : Int) ≤ (p2 : Int) % (q2 : Int) := by rw [e2]; exact Int.natCast_nonneg _
          have r2 : (p2 : Int) % (q2 : Int) < 18446744073709551616 := by rw [e2]; omega
          clear g1 g2 e2 h0
          go_wp2_with fail
          clear hb hb0
          have hq1 : (1 : Int) ≤ (q2 : Int) := HQ1.out
          have hq0 : ((q2 : Int) == 0) = false := by rw [beq_eq_false_iff_ne]; omega
          have hqz : ¬ (q2 = 0) := by omega
          go_quiet (fail)
          go_wp2_with fail
          go_roundw
          case rel => rw [E2.out]; exact ⟨q2, p2 % q2, rfl, rfl, hq2, Nat.lt_trans HL.out hq2, blw_drewN hW2.out _, HG⟩
          case measure => rw [E2.out]; have := HL.out; simp [intOf]; omega
end Go.Proofs.YtdlnoeegboapkaaGreatDoor

/- Numbers in memory, said in one word each: a slice that reads as a normal number (Nn), a slice that reads as a number, perhaps with zeros at the end (Rr); the contracts of layer 1 said so. -/
namespace Go.Proofs.YtdlnoeegboapkaaGreatDoor
open Go.RowKit

/-- The slice v reads as the digits of n, in normal form, and these are at most k. -/
def Nn (w : World) (v : Value) (n k : Nat) : Prop := Rd w v (nf n) ∧ (nf n).length ≤ k
/-- The slice v reads as the number n, in at most k digits, perhaps with zeros at the end. -/
def Rr (w : World) (v : Value) (n k : Nat) : Prop := ∃ l, Rd w v l ∧ val l = n ∧ l.length ≤ k
theorem Nn.rr {w : World} {v : Value} {n k : Nat} (h : Nn w v n k) : Rr w v n k := ⟨_, h.1, val_nf _, h.2⟩
theorem Nn.keep {w w' : World} {v : Value} {n k : Nat} (h : Nn w v n k) (hb : Below w.heap.size w w') : Nn w' v n k := ⟨h.1.keep hb, h.2⟩
theorem Rr.keep {w w' : World} {v : Value} {n k : Nat} (h : Rr w v n k) (hb : Below w.heap.size w w') : Rr w' v n k := by
  obtain ⟨l, h1, h2⟩ := h
  exact ⟨l, h1.keep hb, h2⟩
theorem Nn.rrk {w w' : World} {v : Value} {n k : Nat} (h : Nn w v n k) (hb : Below w.heap.size w w') : Rr w' v n k := (h.keep hb).rr
theorem Nn.mono {w : World} {v : Value} {n k k' : Nat} (h : Nn w v n k) (hk : k ≤ k') : Nn w v n k' := ⟨h.1, Nat.le_trans h.2 hk⟩
theorem Rr.mono {w : World} {v : Value} {n k k' : Nat} (h : Rr w v n k) (hk : k ≤ k') : Rr w v n k' := by
  obtain ⟨l, h1, h2, h3⟩ := h
  exact ⟨l, h1, h2, Nat.le_trans h3 hk⟩
theorem Nn.cast {w : World} {v : Value} {n n' k k' : Nat} (h : Nn w v n k) (e : n = n') (hk : k ≤ k') : Nn w v n' k' := by
  subst e; exact h.mono hk
theorem Nn.nil (w : World) (k : Nat) : Nn w (.slice none 0 0) 0 k := ⟨Rd.nil w, by simp [nf_zero]⟩
theorem Nn.of_own {w : World} {base : Nat} {v : Value} {n k : Nat} (h : Own w base v (nf n)) (hk : (nf n).length ≤ k) : Nn w v n k := ⟨h.rd, hk⟩
theorem Rr.of_rd {w : World} {v : Value} {l : List Nat} {k : Nat} (h : Rd w v l) (hk : l.length ≤ k) : Rr w v (val l) k := ⟨l, h, rfl, hk⟩
theorem Nn.lit {w : World} {v : Value} {n k : Nat} {l : List Nat} (h : Rd w v l) (e : nf n = l) (hk : l.length ≤ k) : Nn w v n k := by
  subst e; exact ⟨h, hk⟩
/-- What is known of the shape of a normal number. -/
theorem Nn.shape {w : World} {v : Value} {n k : Nat} (h : Nn w v n k) : ∃ a cap, v = .slice a (nf n).length cap ∧ (nf n).length ≤ cap ∧ cap ≤ 9223372036854775807 ∧ (nf n).length ≤ k := by
  obtain ⟨⟨a, cap, e, h1, h2, _⟩, hk⟩ := h
  exact ⟨a, cap, e, h1, h2, hk⟩
theorem nflen_pos {n : Nat} : 0 < (nf n).length ↔ n ≠ 0 := by
  constructor
  · intro h e; subst e; simp [nf_zero] at h
  · exact nf_len_pos
theorem nflen_zero {n : Nat} : (nf n).length = 0 ↔ n = 0 := by
  constructor
  · intro h; exact nf_eq_nil.1 (List.eq_nil_of_length_eq_zero h)
  · rintro rfl; rfl

/-- A normal number is returned, in memory that need not be new; nothing that was there has changed. -/
def RetN (w : World) (n k : Nat) (e : Ending) (w' : World) : Prop := ∃ a l c, e = .returned (.slice a l c) ∧ Nn w' (.slice a l c) n k ∧ Below w.heap.size w w'
theorem RetN.mk {w w' : World} {n k : Nat} {v : Value} (h : Nn w' v n k) (hb : Below w.heap.size w w') : RetN w n k (.returned v) w' := by
  obtain ⟨a, c, rfl, _⟩ := h.shape
  exact ⟨a, _, c, rfl, h, hb⟩
theorem Rr.shape {w : World} {v : Value} {n k : Nat} (h : Rr w v n k) : ∃ a l c, v = .slice a l c := by
  obtain ⟨l, ⟨a, cap, rfl, _⟩, _⟩ := h
  exact ⟨_, _, _, rfl⟩
/-- The length of a normal number's slice. -/
theorem Nn.len {w : World} {a : Option Addr} {l c n k : Nat} (h : Nn w (.slice a l c) n k) : l = (nf n).length := by
  obtain ⟨a', c', e, _⟩ := h.shape
  injection e

/-! ### the contracts of layer 1 -/
section
variable {w : World} {u v : Value} {m n km kn : Nat}
theorem normW (hu : Rr w u m km) (hk : km ≤ 900000) : Calls Tryz.prog 216 #[u] w (RetN w m km) := by
  obtain ⟨l, h, rfl, hl⟩ := hu
  refine (norm_any _ _ _ h (by omega)).mono ?_
  rintro e w' ⟨z, rfl, hz, hb⟩
  exact .mk (.of_own hz (Nat.le_trans (nf_val_len h.dig) hl)) hb
theorem len_addM {m n a b : Nat} (h1 : (nf m).length ≤ a) (h2 : (nf n).length ≤ b) : (nf (m + n)).length ≤ max a b + 1 := by
  have h3 := lt_of_nf_len (Nat.le_trans h1 (Nat.le_max_left a b))
  have h4 := lt_of_nf_len (Nat.le_trans h2 (Nat.le_max_right a b))
  refine nf_len_le ?_
  rw [Nat.pow_succ]
  omega
theorem Rr.nflen {w : World} {v : Value} {n k : Nat} (h : Rr w v n k) : (nf n).length ≤ k := by
  obtain ⟨l, h, rfl, hl⟩ := h
  exact Nat.le_trans (nf_val_len h.dig) hl
theorem addW (hu : Rr w u m km) (hv : Rr w v n kn) (hk : km ≤ 900000) (hk2 : kn ≤ 900000) : Calls Tryz.prog 272 #[u, v] w (RetN w (m + n) (max km kn + 1)) := by
  have h1 := hu.nflen
  have h3 := hv.nflen
  obtain ⟨la, h, rfl, hl⟩ := hu
  obtain ⟨lb, h2, rfl, hl2⟩ := hv
  refine (add_any _ _ _ _ _ h h2 (by omega) (by omega)).mono ?_
  rintro e w' ⟨z, rfl, hz, hb⟩
  exact .mk (.of_own hz (len_addM h1 h3)) hb
theorem mulW (hu : Rr w u m km) (hv : Rr w v n kn) (hk : km ≤ 900000) (hk2 : kn ≤ 900000) : Calls Tryz.prog 212 #[u, v] w (RetN w (m * n) (km + kn)) := by
  have h1 := hu.nflen
  have h3 := hv.nflen
  obtain ⟨la, h, rfl, hl⟩ := hu
  obtain ⟨lb, h2, rfl, hl2⟩ := hv
  refine (mul_any _ _ _ _ _ h h2 (by omega) (by omega)).mono ?_
  rintro e w' ⟨z, rfl, hz, hb⟩
  exact .mk (.of_own hz (len_mul h1 h3 (Nat.le_refl _))) hb
theorem subW (hu : Rr w u m km) (hv : Rr w v n kn) (hk : km ≤ 900000) : Calls Tryz.prog 273 #[u, v] w fun e w' => ∃ a l c, e = .returned (.tuple #[.slice a l c, .bool (decide (n ≤ m))]) ∧ Nn w' (.slice a l c) (m - n) km ∧ Below w.heap.size w w' := by
  have h1 := hu.nflen
  obtain ⟨la, h, rfl, hl⟩ := hu
  obtain ⟨lb, h2, rfl, hl2⟩ := hv
  refine (sub_any _ _ _ _ _ h h2 (by omega)).mono ?_
  rintro e w' ⟨z, rfl, hz, hb⟩
  have hn := Nn.of_own hz (len_le (Nat.sub_le _ _) h1)
  obtain ⟨a, c, rfl, _⟩ := hn.shape
  exact ⟨_, _, _, rfl, hn, hb⟩
theorem divmodW (hu : Rr w u m km) (hv : Rr w v n kn) (hk : km ≤ 900000) : Calls Tryz.prog 250 #[u, v] w fun e w' => ∃ a l c a2 l2 c2, e = .returned (.tuple #[.slice a l c, .slice a2 l2 c2, .bool (decide (n ≠ 0))]) ∧ Nn w' (.slice a l c) (m / n) km ∧ Nn w' (.slice a2 l2 c2) (if n = 0 then 0 else m % n) km ∧ Below w.heap.size w w' := by
  have h1 := hu.nflen
  obtain ⟨la, h, rfl, hl⟩ := hu
  obtain ⟨lb, h2, rfl, hl2⟩ := hv
  refine (divmod_any _ _ _ _ _ h h2 (by omega) (.inr long_any)).mono ?_
  rintro e w' ⟨q, r, rfl, hq, hr, hb⟩
  have hn := Nn.of_own hq (len_le (Nat.div_le_self _ _) h1)
  have hn2 := Nn.of_own hr (k := km) (by
    split
    · simp [nf_zero]
    · exact len_le (Nat.mod_le _ _) h1)
  obtain ⟨a, c, rfl, _⟩ := hn.shape
  obtain ⟨a2, c2, rfl, _⟩ := hn2.shape
  exact ⟨_, _, _, _, _, _, rfl, hn, hn2, hb⟩
theorem gcdW (hu : Rr w u m km) (hv : Rr w v n kn) (hk : km ≤ 900000) (hk2 : kn ≤ 900000) : Calls Tryz.prog 249 #[u, v] w (RetN w (Nat.gcd m n) (max km kn)) := by
  have h1 := hu.nflen
  have h3 := hv.nflen
  obtain ⟨la, h, rfl, hl⟩ := hu
  obtain ⟨lb, h2, rfl, hl2⟩ := hv
  refine (gcd_any _ _ _ _ _ h h2 (by omega) (by omega)).mono ?_
  rintro e w' ⟨z, rfl, hz, hb⟩
  refine .mk (.of_own hz ?_) hb
  by_cases h0 : val la = 0
  · rw [h0, Nat.gcd_zero_left]; exact Nat.le_trans h3 (Nat.le_max_right _ _)
  · exact Nat.le_trans (len_le (Nat.gcd_le_left _ (by omega)) h1) (Nat.le_max_left _ _)
theorem cmpW (hu : Rr w u m km) (hv : Rr w v n kn) : Calls Tryz.prog 281 #[u, v] w fun e w' => e = .returned (.int .i64 (cmpN m n)) ∧ Below w.heap.size w w' := by
  obtain ⟨la, h, rfl, hl⟩ := hu
  obtain ⟨lb, h2, rfl, hl2⟩ := hv
  exact natCmp_any _ _ _ _ _ h h2
theorem bitsW (hu : Rr w u m km) (hk : km ≤ 900000) : Calls Tryz.prog 133 #[u] w fun e w' => e = .returned (.int .i64 ((nbits m : Nat) : Int)) ∧ w = w' := by
  obtain ⟨la, h, rfl, hl⟩ := hu
  exact natBits_any _ _ _ h (by omega)
theorem uintW (hu : Rr w u m km) : Calls Tryz.prog 252 #[u] w fun e w' => e = .returned (uintV m) ∧ w = w' := by
  obtain ⟨la, h, rfl, hl⟩ := hu
  exact uint_any _ _ _ h
theorem fromUintW {x : Nat} (hx : x < 18446744073709551616) : Calls Tryz.prog 217 #[.int .u64 (x : Int)] w (RetN w x 2) := by
  refine (fromUint_any _ x hx).mono ?_
  rintro e w' ⟨z, rfl, hz, hb⟩
  exact .mk (.of_own hz (nf_len_le (by omega))) hb
theorem refNW (hu : Rr w u m km) (hk : km ≤ 900000) : Calls Tryz.prog 63 #[u] w (RetN w m km) := by
  have h1 := hu.nflen
  obtain ⟨la, h, rfl, hl⟩ := hu
  refine (refN_any _ _ _ h (by omega)).mono ?_
  rintro e w' ⟨z, rfl, hz, hb⟩
  exact .mk (.of_own hz h1) hb
theorem refToNW (hu : Nn w u m km) (hk : km ≤ 900000) : Calls Tryz.prog 102 #[u] w (RetN w m km) := by
  obtain ⟨h, hl⟩ := hu
  refine (refToN_any _ _ _ h (by omega)).mono ?_
  rintro e w' ⟨z, rfl, hz, hb⟩
  exact .mk (.of_own hz hl) hb
theorem nf_sameB {m n : Nat} : sameB (nf m) (nf n) = decide (m = n) := by
  unfold sameB
  rw [decide_eq_decide]
  exact ⟨nf_inj, fun e => by rw [e]⟩
theorem sameNW (hu : Nn w u m km) (hv : Nn w v n kn) : Calls Tryz.prog 100 #[u, v] w fun e w' => e = .returned (.bool (decide (m = n))) ∧ Below w.heap.size w w' := by
  have := sameN_any _ _ _ _ _ hu.1 hv.1
  rw [nf_sameB] at this
  exact this
theorem numCmpW (hu : Nn w u m km) (hv : Nn w v n kn) : Calls Tryz.prog 139 #[u, v] w fun e w' => e = .returned (.int .i64 (cmpN m n)) ∧ Below w.heap.size w w' := numCmp_any _ _ _ _ _ hu.1 hv.1
end
end Go.Proofs.YtdlnoeegboapkaaGreatDoor

/- Small laws on memory that the walks of this claim share: a cell that is kept by a call, a struct that is stored into a variable of the call's own and returned. printed by a small program (mkmem.py). -/
namespace Go.Proofs.YtdlnoeegboapkaaGreatDoor
open Go.RowKit

theorem ret_store {P : Program} {fn : Func} {R : Ending → World → Prop} {a : Act} {w : World} (k : Tmp) {v : Value} (_hv : a.tmps.getD k undef = v)
    (hr : (results fn a.tmps).run P w = .ok v w) (hd : a.defers = []) (hR : R (.returned v) w) : bodyPost P fn R .ret a w := ⟨hd, v, hr, hR⟩
/-- A store into a block of the call's own. -/
theorem blw_set {w W : World} {p : Addr} (x : Value) (h : Below w.heap.size w W) (hp : w.heap.size ≤ p.block) : Below w.heap.size w (W.setCell p x) := h.setCell hp x
theorem blw_drew {w W : World} (h : Below w.heap.size w W) : Below w.heap.size w W.drew := h.drew
theorem keepc {W w1 : World} {a : Addr} {v : Value} (hb : Below W.heap.size W w1) (h : W.cell? a = some v) : w1.cell? a = some v := (hb.cell (lt_of_cell h)).trans h
theorem keepf {W w1 : World} {a : Addr} (hb : Below W.heap.size W w1) {v : Value} (h : W.cell? a = some v) (hf : W.frozen? a = false) : w1.frozen? a = false := (hb.frozen (lt_of_cell h)).trans hf
theorem setf {W : World} {a p : Addr} {x : Value} (h : W.frozen? a = false) : (W.setCell p x).frozen? a = false := by
  simpa using h
theorem setn {W : World} {a p : Addr} {x v : Value} (h : W.cell? a = some v) (hne : p ≠ a) : (W.setCell p x).cell? a = some v := by
  rw [World.cell?_setCell_other _ _ _ _ hne]; exact h
theorem setnA {W : World} {a p : Addr} {x v : Value} (hne : p ≠ a) (h : W.cell? a = some v) : (W.setCell p x).cell? a = some v := setn h hne
theorem cellKeep {W W2 : World} {a : Addr} {v : Value} (hb : Below W.heap.size W W2) (h : W.cell? a = some v) : W2.cell? a = some v := keepc hb h
theorem cellAl {W : World} {a : Addr} {v : Value} {o : Obj} (h : W.cell? a = some v) : (W.alloc o).cell? a = some v := by
  rw [World.cell?_alloc_lt _ _ _ (lt_of_cell h)]; exact h
theorem cellDr {W : World} {a : Addr} {v : Value} (h : W.cell? a = some v) : W.drew.cell? a = some v := h
theorem cellDrN {W : World} {a : Addr} {v : Value} {j : Nat} (h : W.cell? a = some v) : (W.drewN j).cell? a = some v := h
/-- A cell that may be stored into. -/
def Fz (W : World) (a : Addr) : Prop := (∃ u, W.cell? a = some u) ∧ W.frozen? a = false
theorem Fz.out {W : World} {a : Addr} (h : Fz W a) : W.frozen? a = false := h.2
theorem Fz.mk' {W : World} {a : Addr} {v : Value} (h : W.cell? a = some v) (hf : W.frozen? a = false) : Fz W a := ⟨⟨v, h⟩, hf⟩
theorem Fz.keep {W W2 : World} {a : Addr} (hb : Below W.heap.size W W2) (h : Fz W a) : Fz W2 a := by
  obtain ⟨⟨v, hv⟩, hf⟩ := h
  exact ⟨⟨v, keepc hb hv⟩, keepf hb hv hf⟩
theorem Fz.al {W : World} {a : Addr} {o : Obj} (h : Fz W a) : Fz (W.alloc o) a := h.keep (blw_one _ _)
theorem Fz.dr {W : World} {a : Addr} (h : Fz W a) : Fz W.drew a := h
theorem Fz.drN {W : World} {a : Addr} {j : Nat} (h : Fz W a) : Fz (W.drewN j) a := h
theorem Fz.set {W : World} {a p : Addr} {x : Value} (h : Fz W a) : Fz (W.setCell p x) a := by
  obtain ⟨⟨v, hv⟩, hf⟩ := h
  obtain ⟨v', hv'⟩ := cell?_setCell_some (w := W) (p := p) (x := x) (q := a) (v := v) hv
  exact ⟨⟨v', hv'⟩, setf hf⟩
theorem setc {W : World} {a p : Addr} {x v : Value} (h : W.cell? a = some v) (hne : a.block < p.block) : (W.setCell p x).cell? a = some v :=
  setn h (fun e => by subst e; omega)

/-! ### what a cell holds, by its kind -/
def cellB (w : World) (a : Addr) : Bool := match w.cell? a with | some (.bool b) => b | _ => false
def cellA (w : World) (a : Addr) : Option Addr := match w.cell? a with | some (.slice x _ _) => x | _ => none
def cellL (w : World) (a : Addr) : Nat := match w.cell? a with | some (.slice _ x _) => x | _ => 0
def cellC (w : World) (a : Addr) : Nat := match w.cell? a with | some (.slice _ _ x) => x | _ => 0
def cellI (w : World) (a : Addr) : Int := match w.cell? a with | some (.int _ x) => x | _ => 0
def cellP (w : World) (a : Addr) : Option Addr := match w.cell? a with | some (.pointer x) => x | _ => none
theorem hasB {w : World} {a : Addr} {b : Bool} (h : w.cell? a = some (.bool b)) : w.cell? a = some (.bool (cellB w a)) := by unfold cellB; rw [h]
theorem keepB {W w1 : World} {a : Addr} (hb : Below W.heap.size W w1) {b : Bool} (h : W.cell? a = some (.bool b)) : w1.cell? a = some (.bool (cellB w1 a)) := hasB (keepc hb h)
theorem setBn {W : World} {a p : Addr} {y : Value} {b : Bool} (hne : p ≠ a) (h : W.cell? a = some (.bool b)) : (W.setCell p y).cell? a = some (.bool (cellB (W.setCell p y) a)) := hasB (setn h hne)
theorem setBs {W : World} {p : Addr} {u : Value} {b : Bool} (h : W.cell? p = some u) : (W.setCell p (.bool b)).cell? p = some (.bool (cellB (W.setCell p (.bool b)) p)) := hasB (World.cell?_setCell_same _ _ _ h)
theorem hasS {w : World} {a : Addr} {x : Option Addr} {l c : Nat} (h : w.cell? a = some (.slice x l c)) : w.cell? a = some (.slice (cellA w a) (cellL w a) (cellC w a)) := by unfold cellA cellL cellC; rw [h]
theorem keepS {W w1 : World} {a : Addr} (hb : Below W.heap.size W w1) {x : Option Addr} {l c : Nat} (h : W.cell? a = some (.slice x l c)) : w1.cell? a = some (.slice (cellA w1 a) (cellL w1 a) (cellC w1 a)) := hasS (keepc hb h)
theorem setSn {W : World} {a p : Addr} {y : Value} {x : Option Addr} {l c : Nat} (hne : p ≠ a) (h : W.cell? a = some (.slice x l c)) : (W.setCell p y).cell? a = some (.slice (cellA (W.setCell p y) a) (cellL (W.setCell p y) a) (cellC (W.setCell p y) a)) := hasS (setn h hne)
theorem setSs {W : World} {p : Addr} {u : Value} {x : Option Addr} {l c : Nat} (h : W.cell? p = some u) : (W.setCell p (.slice x l c)).cell? p = some (.slice (cellA (W.setCell p (.slice x l c)) p) (cellL (W.setCell p (.slice x l c)) p) (cellC (W.setCell p (.slice x l c)) p)) := hasS (World.cell?_setCell_same _ _ _ h)
theorem hasI {w : World} {a : Addr} {n : Int} (h : w.cell? a = some (.int .i64 n)) : w.cell? a = some (.int .i64 (cellI w a)) := by unfold cellI; rw [h]
theorem keepI {W w1 : World} {a : Addr} (hb : Below W.heap.size W w1) {n : Int} (h : W.cell? a = some (.int .i64 n)) : w1.cell? a = some (.int .i64 (cellI w1 a)) := hasI (keepc hb h)
theorem setIn {W : World} {a p : Addr} {y : Value} {n : Int} (hne : p ≠ a) (h : W.cell? a = some (.int .i64 n)) : (W.setCell p y).cell? a = some (.int .i64 (cellI (W.setCell p y) a)) := hasI (setn h hne)
theorem setIs {W : World} {p : Addr} {u : Value} {n : Int} (h : W.cell? p = some u) : (W.setCell p (.int .i64 n)).cell? p = some (.int .i64 (cellI (W.setCell p (.int .i64 n)) p)) := hasI (World.cell?_setCell_same _ _ _ h)
theorem hasU {w : World} {a : Addr} {n : Int} (h : w.cell? a = some (.int .u32 n)) : w.cell? a = some (.int .u32 (cellI w a)) := by unfold cellI; rw [h]
theorem keepU {W w1 : World} {a : Addr} (hb : Below W.heap.size W w1) {n : Int} (h : W.cell? a = some (.int .u32 n)) : w1.cell? a = some (.int .u32 (cellI w1 a)) := hasU (keepc hb h)
theorem setUn {W : World} {a p : Addr} {y : Value} {n : Int} (hne : p ≠ a) (h : W.cell? a = some (.int .u32 n)) : (W.setCell p y).cell? a = some (.int .u32 (cellI (W.setCell p y) a)) := hasU (setn h hne)
theorem setUs {W : World} {p : Addr} {u : Value} {n : Int} (h : W.cell? p = some u) : (W.setCell p (.int .u32 n)).cell? p = some (.int .u32 (cellI (W.setCell p (.int .u32 n)) p)) := hasU (World.cell?_setCell_same _ _ _ h)
theorem hasP {w : World} {a : Addr} {x : Option Addr} (h : w.cell? a = some (.pointer x)) : w.cell? a = some (.pointer (cellP w a)) := by unfold cellP; rw [h]
theorem keepP {W w1 : World} {a : Addr} (hb : Below W.heap.size W w1) {x : Option Addr} (h : W.cell? a = some (.pointer x)) : w1.cell? a = some (.pointer (cellP w1 a)) := hasP (keepc hb h)
theorem setPn {W : World} {a p : Addr} {y : Value} {x : Option Addr} (hne : p ≠ a) (h : W.cell? a = some (.pointer x)) : (W.setCell p y).cell? a = some (.pointer (cellP (W.setCell p y) a)) := hasP (setn h hne)
theorem setPs {W : World} {p : Addr} {u : Value} {x : Option Addr} (h : W.cell? p = some u) : (W.setCell p (.pointer x)).cell? p = some (.pointer (cellP (W.setCell p (.pointer x)) p)) := hasP (World.cell?_setCell_same _ _ _ h)
theorem back_set {W : World} {p q : Addr} {x u : Value} (h : (W.setCell p x).cell? q = some u) : ∃ v, W.cell? q = some v := by
  by_cases e : p = q
  · subst e
    unfold World.cell? at h ⊢
    simp only [World.setCell, Array.getElem?_modify, ↓reduceIte] at h
    cases hh : W.heap[p.block]? with
    | none => simp [hh] at h
    | some o =>
      cases o with
      | cells c t f =>
        simp only [hh, Option.map_some] at h
        cases hs : p.spot.isSome with
        | true => simp [hs] at h
        | false =>
          simp only [hs] at h ⊢
          have hlt : p.off < c.size := by
            rcases Nat.lt_or_ge p.off c.size with h' | h'
            · exact h'
            · simp [h'] at h
          exact ⟨c[p.off], by simp [hlt]⟩
      | _ => simp [hh] at h
  · rw [World.cell?_setCell_other _ _ _ _ e] at h
    exact ⟨u, h⟩
theorem back_sets {b : Nat} : ∀ (vs : List Value) (o : Nat) (W : World) (q : Addr) (u : Value), (W.setCells b o vs).cell? q = some u → ∃ v, W.cell? q = some v
  | [], _, _, _, u, h => ⟨u, h⟩
  | v :: r, o, W, q, u, h => by
    obtain ⟨v', h'⟩ := back_sets r (o + 1) _ q u h
    exact back_set h'
/-- The cells of a struct that has been stored. -/
theorem stored_cells {b : Nat} {W w1 : World} (vs : List Value) (hW : W = w1.setCells b 0 vs) (hh : ∀ j, j < vs.length → ∃ u, W.cell? ⟨b, j, none⟩ = some u) :
    ∀ j (hj : j < vs.length), W.cell? ⟨b, j, none⟩ = some vs[j] := by
  subst hW
  intro j hj
  have := World.cell?_setCells_in b vs 0 w1 (fun j hj => by
    obtain ⟨u, hu⟩ := hh j hj
    obtain ⟨v, hv⟩ := back_sets vs 0 w1 _ _ hu
    rw [Nat.zero_add, hv]; rfl) j hj
  rw [Nat.zero_add] at this
  exact this
theorem loadVar_at {P : Program} (W : World) (b : Nat) (ty : TypeId) (vs : List Value) (d : TypeDesc) (hu : P.underlying ty = some d) (hd : (match d with | .struct _ | .array _ _ => true | _ => false) = true)
    (hi : (P.info? ty).map (·.size) = some vs.length) (hc : ∀ j (hj : j < vs.length), W.cell? ⟨b, j, none⟩ = some vs[j]) : (loadVar ty ⟨b, 0, none⟩).run P W = .ok (.agg vs.toArray) W := by
  have hl : (loadCells ⟨b, 0, none⟩ vs.length).run P W = .ok vs.toArray W :=
    run_loadCells_list (P := P) W ⟨b, 0, none⟩ vs (fun j v hv => by
      have hadd : (⟨b, 0, none⟩ : Addr).add j = ⟨b, j, none⟩ := by unfold Addr.add; split <;> simp_all
      rw [hadd]
      have hj : j < vs.length := by
        rcases Nat.lt_or_ge j vs.length with h | h
        · exact h
        · rw [List.getElem?_eq_none h] at hv; cases hv
      rw [hc j hj, ← hv, List.getElem?_eq_getElem hj])
  cases hq : P.info? ty with
  | none => simp [hq] at hi
  | some i =>
    have hs : i.size = vs.length := by simpa [hq] using hi
    have hagg : (isAgg ty).run P W = .ok true W := by
      unfold isAgg
      rw [Sem.run_bind, run_underlying hu W]
      cases d <;> simp_all
    simp [loadVar, hagg, sizeOf, typeInfo, hq, hs, hl]
/-- The end of a walk whose result is a struct that has just been stored into the result's variable. -/
theorem ret_cells {P : Program} {fn : Func} {R : Ending → World → Prop} {a : Act} {W w1 : World} {b : Nat} (vs : List Value) {p : Tmp} {ty : TypeId} {d : TypeDesc} (hr : fn.results = #[.cell p ty])
    (hu : P.underlying ty = some d) (hd : (match d with | .struct _ | .array _ _ => true | _ => false) = true) (hi : (P.info? ty).map (·.size) = some vs.length)
    (hp : a.tmps.getD p undef = .pointer (some ⟨b, 0, none⟩)) (hW : W = w1.setCells b 0 vs) (hh : ∀ j, j < vs.length → ∃ u, W.cell? ⟨b, j, none⟩ = some u)
    (hdf : a.defers = []) (hR : R (.returned (.agg vs.toArray)) W) : bodyPost P fn R .ret a W := by
  refine ⟨hdf, _, ?_, hR⟩
  have hp' : a.tmps[p]?.getD undef = .pointer (some ⟨b, 0, none⟩) := by simpa using hp
  simp [results, hr, hp', asAddr, loadVar_at W b ty vs d hu hd hi (stored_cells vs hW hh)]
theorem lt_two {P : Nat → Prop} (h0 : P 0) (h1 : P 1) : ∀ j, j < 2 → P j := by
  intro j hj
  match j, hj with
  | 0, _ => exact h0
  | 1, _ => exact h1
theorem lt_three {P : Nat → Prop} (h0 : P 0) (h1 : P 1) (h2 : P 2) : ∀ j, j < 3 → P j := by
  intro j hj
  match j, hj with
  | 0, _ => exact h0
  | 1, _ => exact h1
  | 2, _ => exact h2
theorem lt_six {P : Nat → Prop} (h0 : P 0) (h1 : P 1) (h2 : P 2) (h3 : P 3) (h4 : P 4) (h5 : P 5) : ∀ j, j < 6 → P j := by
  intro j hj
  match j, hj with
  | 0, _ => exact h0
  | 1, _ => exact h1
  | 2, _ => exact h2
  | 3, _ => exact h3
  | 4, _ => exact h4
  | 5, _ => exact h5
theorem lt_eight {P : Nat → Prop} (h0 : P 0) (h1 : P 1) (h2 : P 2) (h3 : P 3) (h4 : P 4) (h5 : P 5) (h6 : P 6) (h7 : P 7) : ∀ j, j < 8 → P j := by
  intro j hj
  match j, hj with
  | 0, _ => exact h0
  | 1, _ => exact h1
  | 2, _ => exact h2
  | 3, _ => exact h3
  | 4, _ => exact h4
  | 5, _ => exact h5
  | 6, _ => exact h6
  | 7, _ => exact h7
theorem ret_cells2 {P : Program} {fn : Func} {R : Ending → World → Prop} {a : Act} {w1 : World} {b : Nat} {x0 x1 : Value} {p : Tmp} {ty : TypeId} {d : TypeDesc} (hr : fn.results = #[.cell p ty])
    (hu : P.underlying ty = some d) (hd : (match d with | .struct _ | .array _ _ => true | _ => false) = true) (hi : (P.info? ty).map (·.size) = some 2)
    (hp : a.tmps.getD p undef = .pointer (some ⟨b, 0, none⟩)) (h0 : ∃ u, ((w1.setCell ⟨b, 0, none⟩ x0).setCell ⟨b, 1, none⟩ x1).cell? ⟨b, 0, none⟩ = some u) (h1 : ∃ u, ((w1.setCell ⟨b, 0, none⟩ x0).setCell ⟨b, 1, none⟩ x1).cell? ⟨b, 1, none⟩ = some u)
    (hdf : a.defers = []) (hR : R (.returned (.agg #[x0, x1])) ((w1.setCell ⟨b, 0, none⟩ x0).setCell ⟨b, 1, none⟩ x1)) : bodyPost P fn R .ret a ((w1.setCell ⟨b, 0, none⟩ x0).setCell ⟨b, 1, none⟩ x1) :=
  ret_cells (w1 := w1) [x0, x1] hr hu hd hi hp rfl (lt_two h0 h1) hdf hR
theorem ret_cells3 {P : Program} {fn : Func} {R : Ending → World → Prop} {a : Act} {w1 : World} {b : Nat} {x0 x1 x2 : Value} {p : Tmp} {ty : TypeId} {d : TypeDesc} (hr : fn.results = #[.cell p ty])
    (hu : P.underlying ty = some d) (hd : (match d with | .struct _ | .array _ _ => true | _ => false) = true) (hi : (P.info? ty).map (·.size) = some 3)
    (hp : a.tmps.getD p undef = .pointer (some ⟨b, 0, none⟩)) (h0 : ∃ u, (((w1.setCell ⟨b, 0, none⟩ x0).setCell ⟨b, 1, none⟩ x1).setCell ⟨b, 2, none⟩ x2).cell? ⟨b, 0, none⟩ = some u) (h1 : ∃ u, (((w1.setCell ⟨b, 0, none⟩ x0).setCell ⟨b, 1, none⟩ x1).setCell ⟨b, 2, none⟩ x2).cell? ⟨b, 1, none⟩ = some u) (h2 : ∃ u, (((w1.setCell ⟨b, 0, none⟩ x0).setCell ⟨b, 1, none⟩ x1).setCell ⟨b, 2, none⟩ x2).cell? ⟨b, 2, none⟩ = some u)
    (hdf : a.defers = []) (hR : R (.returned (.agg #[x0, x1, x2])) (((w1.setCell ⟨b, 0, none⟩ x0).setCell ⟨b, 1, none⟩ x1).setCell ⟨b, 2, none⟩ x2)) : bodyPost P fn R .ret a (((w1.setCell ⟨b, 0, none⟩ x0).setCell ⟨b, 1, none⟩ x1).setCell ⟨b, 2, none⟩ x2) :=
  ret_cells (w1 := w1) [x0, x1, x2] hr hu hd hi hp rfl (lt_three h0 h1 h2) hdf hR
theorem ret_cells6 {P : Program} {fn : Func} {R : Ending → World → Prop} {a : Act} {w1 : World} {b : Nat} {x0 x1 x2 x3 x4 x5 : Value} {p : Tmp} {ty : TypeId} {d : TypeDesc} (hr : fn.results = #[.cell p ty])
    (hu : P.underlying ty = some d) (hd : (match d with | .struct _ | .array _ _ => true | _ => false) = true) (hi : (P.info? ty).map (·.size) = some 6)
    (hp : a.tmps.getD p undef = .pointer (some ⟨b, 0, none⟩)) (h0 : ∃ u, ((((((w1.setCell ⟨b, 0, none⟩ x0).setCell ⟨b, 1, none⟩ x1).setCell ⟨b, 2, none⟩ x2).setCell ⟨b, 3, none⟩ x3).setCell ⟨b, 4, none⟩ x4).setCell ⟨b, 5, none⟩ x5).cell? ⟨b, 0, none⟩ = some u) (h1 : ∃ u, ((((((w1.setCell ⟨b, 0, none⟩ x0).setCell ⟨b, 1, none⟩ x1).setCell ⟨b, 2, none⟩ x2).setCell ⟨b, 3, none⟩ x3).setCell ⟨b, 4, none⟩ x4).setCell ⟨b, 5, none⟩ x5).cell? ⟨b, 1, none⟩ = some u) (h2 : ∃ u, ((((((w1.setCell ⟨b, 0, none⟩ x0).setCell ⟨b, 1, none⟩ x1).setCell ⟨b, 2, none⟩ x2).setCell ⟨b, 3, none⟩ x3).setCell ⟨b, 4, none⟩ x4).setCell ⟨b, 5, none⟩ x5).cell? ⟨b, 2, none⟩ = some u) (h3 : ∃ u, ((((((w1.setCell ⟨b, 0, none⟩ x0).setCell ⟨b, 1, none⟩ x1).setCell ⟨b, 2, none⟩ x2).setCell ⟨b, 3, none⟩ x3).setCell ⟨b, 4, none⟩ x4).setCell ⟨b, 5, none⟩ x5).cell? ⟨b, 3, none⟩ = some u) (h4 : ∃ u, ((((((w1.setCell ⟨b, 0, none⟩ x0).setCell ⟨b, 1, none⟩ x1).setCell ⟨b, 2, none⟩ x2).setCell ⟨b, 3, none⟩ x3).setCell ⟨b, 4, none⟩ x4).setCell ⟨b, 5, none⟩ x5).cell? ⟨b, 4, none⟩ = some u) (h5 : ∃ u, ((((((w1.setCell ⟨b, 0, none⟩ x0).setCell ⟨b, 1, none⟩ x1).setCell ⟨b, 2, none⟩ x2).setCell ⟨b, 3, none⟩ x3).setCell ⟨b, 4, none⟩ x4).setCell ⟨b, 5, none⟩ x5).cell? ⟨b, 5, none⟩ = some u)
    (hdf : a.defers = []) (hR : R (.returned (.agg #[x0, x1, x2, x3, x4, x5])) ((((((w1.setCell ⟨b, 0, none⟩ x0).setCell ⟨b, 1, none⟩ x1).setCell ⟨b, 2, none⟩ x2).setCell ⟨b, 3, none⟩ x3).setCell ⟨b, 4, none⟩ x4).setCell ⟨b, 5, none⟩ x5)) : bodyPost P fn R .ret a ((((((w1.setCell ⟨b, 0, none⟩ x0).setCell ⟨b, 1, none⟩ x1).setCell ⟨b, 2, none⟩ x2).setCell ⟨b, 3, none⟩ x3).setCell ⟨b, 4, none⟩ x4).setCell ⟨b, 5, none⟩ x5) :=
  ret_cells (w1 := w1) [x0, x1, x2, x3, x4, x5] hr hu hd hi hp rfl (lt_six h0 h1 h2 h3 h4 h5) hdf hR
theorem ret_cells8 {P : Program} {fn : Func} {R : Ending → World → Prop} {a : Act} {w1 : World} {b : Nat} {x0 x1 x2 x3 x4 x5 x6 x7 : Value} {p : Tmp} {ty : TypeId} {d : TypeDesc} (hr : fn.results = #[.cell p ty])
    (hu : P.underlying ty = some d) (hd : (match d with | .struct _ | .array _ _ => true | _ => false) = true) (hi : (P.info? ty).map (·.size) = some 8)
    (hp : a.tmps.getD p undef = .pointer (some ⟨b, 0, none⟩)) (h0 : ∃ u, ((((((((w1.setCell ⟨b, 0, none⟩ x0).setCell ⟨b, 1, none⟩ x1).setCell ⟨b, 2, none⟩ x2).setCell ⟨b, 3, none⟩ x3).setCell ⟨b, 4, none⟩ x4).setCell ⟨b, 5, none⟩ x5).setCell ⟨b, 6, none⟩ x6).setCell ⟨b, 7, none⟩ x7).cell? ⟨b, 0, none⟩ = some u) (h1 : ∃ u, ((((((((w1.setCell ⟨b, 0, none⟩ x0).setCell ⟨b, 1, none⟩ x1).setCell ⟨b, 2, none⟩ x2).setCell ⟨b, 3, none⟩ x3).setCell ⟨b, 4, none⟩ x4).setCell ⟨b, 5, none⟩ x5).setCell ⟨b, 6, none⟩ x6).setCell ⟨b, 7, none⟩ x7).cell? ⟨b, 1, none⟩ = some u) (h2 : ∃ u, ((((((((w1.setCell ⟨b, 0, none⟩ x0).setCell ⟨b, 1, none⟩ x1).setCell ⟨b, 2, none⟩ x2).setCell ⟨b, 3, none⟩ x3).setCell ⟨b, 4, none⟩ x4).setCell ⟨b, 5, none⟩ x5).setCell ⟨b, 6, none⟩ x6).setCell ⟨b, 7, none⟩ x7).cell? ⟨b, 2, none⟩ = some u) (h3 : ∃ u, ((((((((w1.setCell ⟨b, 0, none⟩ x0).setCell ⟨b, 1, none⟩ x1).setCell ⟨b, 2, none⟩ x2).setCell ⟨b, 3, none⟩ x3).setCell ⟨b, 4, none⟩ x4).setCell ⟨b, 5, none⟩ x5).setCell ⟨b, 6, none⟩ x6).setCell ⟨b, 7, none⟩ x7).cell? ⟨b, 3, none⟩ = some u) (h4 : ∃ u, ((((((((w1.setCell ⟨b, 0, none⟩ x0).setCell ⟨b, 1, none⟩ x1).setCell ⟨b, 2, none⟩ x2).setCell ⟨b, 3, none⟩ x3).setCell ⟨b, 4, none⟩ x4).setCell ⟨b, 5, none⟩ x5).setCell ⟨b, 6, none⟩ x6).setCell ⟨b, 7, none⟩ x7).cell? ⟨b, 4, none⟩ = some u) (h5 : ∃ u, ((((((((w1.setCell ⟨b, 0, none⟩ x0).setCell ⟨b, 1, none⟩ x1).setCell ⟨b, 2, none⟩ x2).setCell ⟨b, 3, none⟩ x3).setCell ⟨b, 4, none⟩ x4).setCell ⟨b, 5, none⟩ x5).setCell ⟨b, 6, none⟩ x6).setCell ⟨b, 7, none⟩ x7).cell? ⟨b, 5, none⟩ = some u) (h6 : ∃ u, ((((((((w1.setCell ⟨b, 0, none⟩ x0).setCell ⟨b, 1, none⟩ x1).setCell ⟨b, 2, none⟩ x2).setCell ⟨b, 3, none⟩ x3).setCell ⟨b, 4, none⟩ x4).setCell ⟨b, 5, none⟩ x5).setCell ⟨b, 6, none⟩ x6).setCell ⟨b, 7, none⟩ x7).cell? ⟨b, 6, none⟩ = some u) (h7 : ∃ u, ((((((((w1.setCell ⟨b, 0, none⟩ x0).setCell ⟨b, 1, none⟩ x1).setCell ⟨b, 2, none⟩ x2).setCell ⟨b, 3, none⟩ x3).setCell ⟨b, 4, none⟩ x4).setCell ⟨b, 5, none⟩ x5).setCell ⟨b, 6, none⟩ x6).setCell ⟨b, 7, none⟩ x7).cell? ⟨b, 7, none⟩ = some u)
    (hdf : a.defers = []) (hR : R (.returned (.agg #[x0, x1, x2, x3, x4, x5, x6, x7])) ((((((((w1.setCell ⟨b, 0, none⟩ x0).setCell ⟨b, 1, none⟩ x1).setCell ⟨b, 2, none⟩ x2).setCell ⟨b, 3, none⟩ x3).setCell ⟨b, 4, none⟩ x4).setCell ⟨b, 5, none⟩ x5).setCell ⟨b, 6, none⟩ x6).setCell ⟨b, 7, none⟩ x7)) : bodyPost P fn R .ret a ((((((((w1.setCell ⟨b, 0, none⟩ x0).setCell ⟨b, 1, none⟩ x1).setCell ⟨b, 2, none⟩ x2).setCell ⟨b, 3, none⟩ x3).setCell ⟨b, 4, none⟩ x4).setCell ⟨b, 5, none⟩ x5).setCell ⟨b, 6, none⟩ x6).setCell ⟨b, 7, none⟩ x7) :=
  ret_cells (w1 := w1) [x0, x1, x2, x3, x4, x5, x6, x7] hr hu hd hi hp rfl (lt_eight h0 h1 h2 h3 h4 h5 h6 h7) hdf hR
theorem setsame {W : World} {p : Addr} {u x : Value} (h : W.cell? p = some u) : (W.setCell p x).cell? p = some x := World.cell?_setCell_same _ _ _ h
theorem loads2 {P : Program} {W : World} {b : Nat} {ty : TypeId} {d : TypeDesc} {x0 x1 : Value} (hu : P.underlying ty = some d) (hd : (match d with | .struct _ | .array _ _ => true | _ => false) = true) (hi : (P.info? ty).map (·.size) = some 2)
    (h0 : W.cell? ⟨b, 0, none⟩ = some x0) (h1 : W.cell? ⟨b, 1, none⟩ = some x1) : (loadVar ty ⟨b, 0, none⟩).run P W = .ok (.agg #[x0, x1]) W :=
  loadVar_at W b ty [x0, x1] d hu hd hi (fun j hj => lt_two (P := fun j => ∀ hj : j < 2, W.cell? ⟨b, j, none⟩ = some ([x0, x1][j]'hj)) (fun _ => h0) (fun _ => h1) j hj hj)
theorem loads3 {P : Program} {W : World} {b : Nat} {ty : TypeId} {d : TypeDesc} {x0 x1 x2 : Value} (hu : P.underlying ty = some d) (hd : (match d with | .struct _ | .array _ _ => true | _ => false) = true) (hi : (P.info? ty).map (·.size) = some 3)
    (h0 : W.cell? ⟨b, 0, none⟩ = some x0) (h1 : W.cell? ⟨b, 1, none⟩ = some x1) (h2 : W.cell? ⟨b, 2, none⟩ = some x2) : (loadVar ty ⟨b, 0, none⟩).run P W = .ok (.agg #[x0, x1, x2]) W :=
  loadVar_at W b ty [x0, x1, x2] d hu hd hi (fun j hj => lt_three (P := fun j => ∀ hj : j < 3, W.cell? ⟨b, j, none⟩ = some ([x0, x1, x2][j]'hj)) (fun _ => h0) (fun _ => h1) (fun _ => h2) j hj hj)
theorem loads6 {P : Program} {W : World} {b : Nat} {ty : TypeId} {d : TypeDesc} {x0 x1 x2 x3 x4 x5 : Value} (hu : P.underlying ty = some d) (hd : (match d with | .struct _ | .array _ _ => true | _ => false) = true) (hi : (P.info? ty).map (·.size) = some 6)
    (h0 : W.cell? ⟨b, 0, none⟩ = some x0) (h1 : W.cell? ⟨b, 1, none⟩ = some x1) (h2 : W.cell? ⟨b, 2, none⟩ = some x2) (h3 : W.cell? ⟨b, 3, none⟩ = some x3) (h4 : W.cell? ⟨b, 4, none⟩ = some x4) (h5 : W.cell? ⟨b, 5, none⟩ = some x5) : (loadVar ty ⟨b, 0, none⟩).run P W = .ok (.agg #[x0, x1, x2, x3, x4, x5]) W :=
  loadVar_at W b ty [x0, x1, x2, x3, x4, x5] d hu hd hi (fun j hj => lt_six (P := fun j => ∀ hj : j < 6, W.cell? ⟨b, j, none⟩ = some ([x0, x1, x2, x3, x4, x5][j]'hj)) (fun _ => h0) (fun _ => h1) (fun _ => h2) (fun _ => h3) (fun _ => h4) (fun _ => h5) j hj hj)
theorem loads8 {P : Program} {W : World} {b : Nat} {ty : TypeId} {d : TypeDesc} {x0 x1 x2 x3 x4 x5 x6 x7 : Value} (hu : P.underlying ty = some d) (hd : (match d with | .struct _ | .array _ _ => true | _ => false) = true) (hi : (P.info? ty).map (·.size) = some 8)
    (h0 : W.cell? ⟨b, 0, none⟩ = some x0) (h1 : W.cell? ⟨b, 1, none⟩ = some x1) (h2 : W.cell? ⟨b, 2, none⟩ = some x2) (h3 : W.cell? ⟨b, 3, none⟩ = some x3) (h4 : W.cell? ⟨b, 4, none⟩ = some x4) (h5 : W.cell? ⟨b, 5, none⟩ = some x5) (h6 : W.cell? ⟨b, 6, none⟩ = some x6) (h7 : W.cell? ⟨b, 7, none⟩ = some x7) : (loadVar ty ⟨b, 0, none⟩).run P W = .ok (.agg #[x0, x1, x2, x3, x4, x5, x6, x7]) W :=
  loadVar_at W b ty [x0, x1, x2, x3, x4, x5, x6, x7] d hu hd hi (fun j hj => lt_eight (P := fun j => ∀ hj : j < 8, W.cell? ⟨b, j, none⟩ = some ([x0, x1, x2, x3, x4, x5, x6, x7][j]'hj)) (fun _ => h0) (fun _ => h1) (fun _ => h2) (fun _ => h3) (fun _ => h4) (fun _ => h5) (fun _ => h6) (fun _ => h7) j hj hj)
/-- The end of a walk: the results in order; a struct by the law that loads it. -/
theorem ret_cct {P : Program} {fn : Func} {R : Ending → World → Prop} {a : Act} {W : World} {p q u : Tmp} {ty ty2 : TypeId} {b1 b2 : Nat} {v1 v2 : Value} (hr : fn.results = #[.cell p ty, .cell q ty2, .tmp u])
    (hp : a.tmps.getD p undef = .pointer (some ⟨b1, 0, none⟩)) (hq : a.tmps.getD q undef = .pointer (some ⟨b2, 0, none⟩)) (h1 : (loadVar ty ⟨b1, 0, none⟩).run P W = .ok v1 W) (h2 : (loadVar ty2 ⟨b2, 0, none⟩).run P W = .ok v2 W)
    (hdf : a.defers = []) (hR : R (.returned (.tuple #[v1, v2, a.tmps.getD u undef])) W) : bodyPost P fn R .ret a W := by
  refine ⟨hdf, _, ?_, hR⟩
  have hp' : a.tmps[p]?.getD undef = .pointer (some ⟨b1, 0, none⟩) := by simpa using hp
  have hq' : a.tmps[q]?.getD undef = .pointer (some ⟨b2, 0, none⟩) := by simpa using hq
  simp [results, hr, hp', hq', asAddr, h1, h2]
theorem ret_ct {P : Program} {fn : Func} {R : Ending → World → Prop} {a : Act} {W : World} {p u : Tmp} {ty : TypeId} {b1 : Nat} {v1 : Value} (hr : fn.results = #[.cell p ty, .tmp u])
    (hp : a.tmps.getD p undef = .pointer (some ⟨b1, 0, none⟩)) (h1 : (loadVar ty ⟨b1, 0, none⟩).run P W = .ok v1 W)
    (hdf : a.defers = []) (hR : R (.returned (.tuple #[v1, a.tmps.getD u undef])) W) : bodyPost P fn R .ret a W := by
  refine ⟨hdf, _, ?_, hR⟩
  have hp' : a.tmps[p]?.getD undef = .pointer (some ⟨b1, 0, none⟩) := by simpa using hp
  simp [results, hr, hp', asAddr, h1]
theorem ret_c {P : Program} {fn : Func} {R : Ending → World → Prop} {a : Act} {W : World} {p : Tmp} {ty : TypeId} {b1 : Nat} {v1 : Value} (hr : fn.results = #[.cell p ty])
    (hp : a.tmps.getD p undef = .pointer (some ⟨b1, 0, none⟩)) (h1 : (loadVar ty ⟨b1, 0, none⟩).run P W = .ok v1 W)
    (hdf : a.defers = []) (hR : R (.returned v1) W) : bodyPost P fn R .ret a W := by
  refine ⟨hdf, _, ?_, hR⟩
  have hp' : a.tmps[p]?.getD undef = .pointer (some ⟨b1, 0, none⟩) := by simpa using hp
  simp [results, hr, hp', asAddr, h1]

/-! ### readings are kept -/
/-- No digit. -/
def isDigit32 : Value → Bool
  | .int .u32 _ => true
  | _ => false
theorem Rd.set {W : World} {v : Value} {l : List Nat} (h : Rd W v l) (p : Addr) (x : Value) {u : Value} (hc : W.cell? p = some u) (hu : isDigit32 u = false) : Rd (W.setCell p x) v l := by
  obtain ⟨a, cap, rfl, h1, h2, h3, h4⟩ := h
  refine ⟨a, cap, rfl, h1, h2, h3, fun h0 => ?_⟩
  obtain ⟨b, off, rfl, hcell⟩ := h4 h0
  refine ⟨b, off, rfl, fun i hi => ?_⟩
  rw [World.cell?_setCell_other _ _ _ _ (fun e => ?_)]
  · exact hcell i hi
  · subst e
    rw [hcell i hi] at hc
    injection hc with hc
    subst hc
    simp [isDigit32] at hu
theorem Nn.set {W : World} {v : Value} {n k : Nat} (h : Nn W v n k) (p : Addr) (x : Value) {u : Value} (hc : W.cell? p = some u) (hu : isDigit32 u = false) : Nn (W.setCell p x) v n k := by
  exact ⟨h.1.set p x hc hu, h.2⟩
theorem Nn.set2 {W : World} {v : Value} {n k : Nat} {p : Addr} {x u : Value} (hc : W.cell? p = some u) (hu : isDigit32 u = false) (h : Nn W v n k) : Nn (W.setCell p x) v n k := h.set p x hc hu
theorem Nn.keep2 {W W2 : World} {v : Value} {n k : Nat} (hb : Below W.heap.size W W2) (h : Nn W v n k) : Nn W2 v n k := h.keep hb
theorem Nn.al {W : World} {v : Value} {n k : Nat} {o : Obj} (h : Nn W v n k) : Nn (W.alloc o) v n k := h.keep (blw_one _ _)
theorem Nn.dr {W : World} {v : Value} {n k : Nat} (h : Nn W v n k) : Nn W.drew v n k := h.keep (blw_drew (Below.refl _ _))
theorem Nn.drN {W : World} {v : Value} {n k : Nat} {j : Nat} (h : Nn W v n k) : Nn (W.drewN j) v n k := h.keep (blw_drewN (Below.refl _ _) j)
theorem Rr.set {W : World} {v : Value} {n k : Nat} (h : Rr W v n k) (p : Addr) (x : Value) {u : Value} (hc : W.cell? p = some u) (hu : isDigit32 u = false) : Rr (W.setCell p x) v n k := by
  obtain ⟨l, h1, h2⟩ := h
  exact ⟨l, h1.set p x hc hu, h2⟩
theorem Rr.set2 {W : World} {v : Value} {n k : Nat} {p : Addr} {x u : Value} (hc : W.cell? p = some u) (hu : isDigit32 u = false) (h : Rr W v n k) : Rr (W.setCell p x) v n k := h.set p x hc hu
theorem Rr.keep2 {W W2 : World} {v : Value} {n k : Nat} (hb : Below W.heap.size W W2) (h : Rr W v n k) : Rr W2 v n k := h.keep hb
theorem Rr.al {W : World} {v : Value} {n k : Nat} {o : Obj} (h : Rr W v n k) : Rr (W.alloc o) v n k := h.keep (blw_one _ _)
theorem Rr.dr {W : World} {v : Value} {n k : Nat} (h : Rr W v n k) : Rr W.drew v n k := h.keep (blw_drew (Below.refl _ _))
theorem Rr.drN {W : World} {v : Value} {n k : Nat} {j : Nat} (h : Rr W v n k) : Rr (W.drewN j) v n k := h.keep (blw_drewN (Below.refl _ _) j)
/-- The literal Nat{1}. -/
theorem Rr.lit1 {w : World} : Rr (w.alloc (.cells #[.int .u32 1] 106)) (.slice (some ⟨w.heap.size, 0, none⟩) 1 1) 1 1 :=
  ⟨[1], rd_lit rfl [1] (dig1 (by omega)) (by simp) #[.int .u32 1] rfl 1 rfl, rfl, by simp⟩
theorem Nn.lit1 {w : World} : Nn (w.alloc (.cells #[.int .u32 1] 106)) (.slice (some ⟨w.heap.size, 0, none⟩) 1 1) 1 1 :=
  .lit (rd_lit rfl [1] (dig1 (by omega)) (by simp) #[.int .u32 1] rfl 1 rfl) (nf_one (by omega) (by omega)) (by simp)
end Go.Proofs.YtdlnoeegboapkaaGreatDoor

/- Integers in memory, as a sign and a slice of digits; contracts of package integer. printed by a small program (mkint.py). -/
namespace Go.Proofs.YtdlnoeegboapkaaGreatDoor
open Go.RowKit

def sgn (g : Bool) (n : Nat) : Int := if g then -(n : Int) else (n : Int)
/-- The sign g and the slice s are the integer z in normal form, of at most k digits. -/
def Zz (w : World) (g : Bool) (s : Value) (z : Int) (k : Nat) : Prop := g = decide (z < 0) ∧ Nn w s z.natAbs k
/-- The sign g and the slice s read as the integer z, perhaps not in normal form. -/
def Zi (w : World) (g : Bool) (s : Value) (z : Int) (k : Nat) : Prop := ∃ n, Rr w s n k ∧ z = sgn g n
theorem sgn_of (z : Int) : sgn (decide (z < 0)) z.natAbs = z := by
  unfold sgn
  by_cases h : z < 0
  · simp [h]; omega
  · simp [h]; omega
theorem sgn_abs (g : Bool) (n : Nat) : (sgn g n).natAbs = n := by cases g <;> simp [sgn]
theorem sgn_true (n : Nat) : sgn true n = -(n : Int) := rfl
theorem sgn_false (n : Nat) : sgn false n = (n : Int) := rfl
theorem Zz.zi {w : World} {g : Bool} {s : Value} {z : Int} {k : Nat} (h : Zz w g s z k) : Zi w g s z k := ⟨_, h.2.rr, by rw [h.1, sgn_of]⟩
theorem Zz.keep {w w' : World} {g : Bool} {s : Value} {z : Int} {k : Nat} (h : Zz w g s z k) (hb : Below w.heap.size w w') : Zz w' g s z k := ⟨h.1, h.2.keep hb⟩
theorem Zi.keep {w w' : World} {g : Bool} {s : Value} {z : Int} {k : Nat} (h : Zi w g s z k) (hb : Below w.heap.size w w') : Zi w' g s z k := by
  obtain ⟨n, h1, h2⟩ := h
  exact ⟨n, h1.keep hb, h2⟩
theorem Zz.set {W : World} {g : Bool} {s : Value} {z : Int} {k : Nat} (h : Zz W g s z k) (p : Addr) (x : Value) {u : Value} (hc : W.cell? p = some u) (hu : isDigit32 u = false) : Zz (W.setCell p x) g s z k := by
  exact ⟨h.1, h.2.set p x hc hu⟩
theorem Zz.set2 {W : World} {g : Bool} {s : Value} {z : Int} {k : Nat} {p : Addr} {x u : Value} (hc : W.cell? p = some u) (hu : isDigit32 u = false) (h : Zz W g s z k) : Zz (W.setCell p x) g s z k := h.set p x hc hu
theorem Zz.keep2 {W W2 : World} {g : Bool} {s : Value} {z : Int} {k : Nat} (hb : Below W.heap.size W W2) (h : Zz W g s z k) : Zz W2 g s z k := h.keep hb
theorem Zz.al {W : World} {g : Bool} {s : Value} {z : Int} {k : Nat} {o : Obj} (h : Zz W g s z k) : Zz (W.alloc o) g s z k := h.keep (blw_one _ _)
theorem Zz.dr {W : World} {g : Bool} {s : Value} {z : Int} {k : Nat} (h : Zz W g s z k) : Zz W.drew g s z k := h.keep (blw_drew (Below.refl _ _))
theorem Zz.drN {W : World} {g : Bool} {s : Value} {z : Int} {k : Nat} {j : Nat} (h : Zz W g s z k) : Zz (W.drewN j) g s z k := h.keep (blw_drewN (Below.refl _ _) j)
theorem Zi.set {W : World} {g : Bool} {s : Value} {z : Int} {k : Nat} (h : Zi W g s z k) (p : Addr) (x : Value) {u : Value} (hc : W.cell? p = some u) (hu : isDigit32 u = false) : Zi (W.setCell p x) g s z k := by
  obtain ⟨n, h1, h2⟩ := h
  exact ⟨n, h1.set p x hc hu, h2⟩
theorem Zi.set2 {W : World} {g : Bool} {s : Value} {z : Int} {k : Nat} {p : Addr} {x u : Value} (hc : W.cell? p = some u) (hu : isDigit32 u = false) (h : Zi W g s z k) : Zi (W.setCell p x) g s z k := h.set p x hc hu
theorem Zi.keep2 {W W2 : World} {g : Bool} {s : Value} {z : Int} {k : Nat} (hb : Below W.heap.size W W2) (h : Zi W g s z k) : Zi W2 g s z k := h.keep hb
theorem Zi.al {W : World} {g : Bool} {s : Value} {z : Int} {k : Nat} {o : Obj} (h : Zi W g s z k) : Zi (W.alloc o) g s z k := h.keep (blw_one _ _)
theorem Zi.dr {W : World} {g : Bool} {s : Value} {z : Int} {k : Nat} (h : Zi W g s z k) : Zi W.drew g s z k := h.keep (blw_drew (Below.refl _ _))
theorem Zi.drN {W : World} {g : Bool} {s : Value} {z : Int} {k : Nat} {j : Nat} (h : Zi W g s z k) : Zi (W.drewN j) g s z k := h.keep (blw_drewN (Below.refl _ _) j)
theorem Zz.cast {w : World} {g : Bool} {s : Value} {z z' : Int} {k k' : Nat} (h : Zz w g s z k) (e : z = z') (hk : k ≤ k') : Zz w g s z' k' := by
  subst e; exact ⟨h.1, h.2.mono hk⟩
theorem Zi.shape {w : World} {g : Bool} {s : Value} {z : Int} {k : Nat} (h : Zi w g s z k) : ∃ a l c, s = .slice a l c := by
  obtain ⟨n, h1, h2⟩ := h
  exact h1.shape
theorem dec_pos {n : Nat} : decide (0 < (nf n).length) = decide (n ≠ 0) := decide_eq_decide.2 nflen_pos
def RetZ (w : World) (z : Int) (k : Nat) (e : Ending) (w' : World) : Prop := ∃ g a l c, e = .returned (.agg #[.bool g, .slice a l c]) ∧ Zz w' g (.slice a l c) z k ∧ Below w.heap.size w w'
/-- The sign that a normal integer's struct bears. -/
theorem Zz.mk' {w : World} {g : Bool} {a : Option Addr} {l c n k : Nat} (h : Nn w (.slice a l c) n k) : Zz w (g && decide (0 < l)) (.slice a l c) (sgn g n) k := by
  refine ⟨?_, by rw [sgn_abs]; exact h⟩
  rw [h.len, dec_pos]
  cases g
  · simp [sgn]
  · by_cases h0 : n = 0 <;> simp [sgn_true, h0]; omega

/-- The sign of an integer. -/
def isgn (x : Int) : Int := if x < 0 then -1 else if 0 < x then 1 else 0
theorem nbits_eq0 {m : Nat} (h : m = 0) : (((nbits m : Nat) : Int) == 0) = true := by subst h; rfl
theorem nbits_pos' {m : Nat} (h : m ≠ 0) : (((nbits m : Nat) : Int) == 0) = false := by
  rw [nbits_pos h, beq_eq_false_iff_ne]
  have h1 := nf_len_pos h
  have h2 := nf_last m h
  have h3 := (blen_ge (by have := dig_get (dig_nf m) ((nf m).length - 1); omega) h2).1
  omega
/-- How two integers compare. -/
def icmp (x y : Int) : Int := if x < y then -1 else if y < x then 1 else 0
theorem icmp_lt {x y : Int} (h : x < y) : icmp x y = -1 := by unfold icmp; rw [if_pos h]
theorem icmp_gt {x y : Int} (h : y < x) : icmp x y = 1 := by unfold icmp; rw [if_neg (by omega), if_pos h]
theorem icmp_eq {x y : Int} (h : x = y) : icmp x y = 0 := by unfold icmp; rw [if_neg (by omega), if_neg (by omega)]
theorem isgn_cases (x : Int) : (x < 0 ∧ isgn x = -1) ∨ (x = 0 ∧ isgn x = 0) ∨ (0 < x ∧ isgn x = 1) := by
  unfold isgn
  rcases Int.lt_trichotomy x 0 with h | h | h
  · exact .inl ⟨h, by rw [if_pos h]⟩
  · exact .inr (.inl ⟨h, by rw [if_neg (by omega), if_neg (by omega)]⟩)
  · exact .inr (.inr ⟨h, by rw [if_neg (by omega), if_pos h]⟩)
theorem cmpN_cases (m n : Nat) : (m < n ∧ cmpN m n = -1) ∨ (m = n ∧ cmpN m n = 0) ∨ (n < m ∧ cmpN m n = 1) := by
  rcases Nat.lt_trichotomy m n with h | h | h
  · exact .inl ⟨h, cmpN_lt h⟩
  · exact .inr (.inl ⟨h, cmpN_eq h⟩)
  · exact .inr (.inr ⟨h, cmpN_gt h⟩)
theorem sgn_neg {g : Bool} {m : Nat} (h : sgn g m < 0) : sgn g m = -(m : Int) := by cases g <;> simp [sgn] at * <;> omega
theorem sgn_pos {g : Bool} {m : Nat} (h : 0 < sgn g m) : sgn g m = (m : Int) := by cases g <;> simp [sgn] at * <;> omega
theorem sgn_zero {g : Bool} {m : Nat} (h : sgn g m = 0) : m = 0 := by cases g <;> simp [sgn] at * <;> omega
/-- What Cmp comes to when both signs and the order of the amounts are known. -/
theorem icmp_of {g1 g2 : Bool} {m n : Nat} {s t c : Int} (hs : isgn (sgn g1 m) = s) (ht : isgn (sgn g2 n) = t) (hc : cmpN m n = c) :
    (s < t → icmp (sgn g1 m) (sgn g2 n) = -1) ∧ (t < s → icmp (sgn g1 m) (sgn g2 n) = 1) ∧ (s = t → icmp (sgn g1 m) (sgn g2 n) = s * c) := by
  subst hs ht hc
  rcases isgn_cases (sgn g1 m) with ⟨h1, e1⟩ | ⟨h1, e1⟩ | ⟨h1, e1⟩ <;> rcases isgn_cases (sgn g2 n) with ⟨h2, e2⟩ | ⟨h2, e2⟩ | ⟨h2, e2⟩ <;> rw [e1, e2]
  · rw [sgn_neg h1, sgn_neg h2]
    rcases cmpN_cases m n with ⟨h3, e3⟩ | ⟨h3, e3⟩ | ⟨h3, e3⟩ <;> rw [e3]
    · rw [icmp_gt (by omega)]; omega
    · rw [icmp_eq (by omega)]; omega
    · rw [icmp_lt (by omega)]; omega
  · rw [icmp_lt (by omega)]; omega
  · rw [icmp_lt (by omega)]; omega
  · rw [icmp_gt (by omega)]; omega
  · rw [icmp_eq (by omega)]; omega
  · rw [icmp_lt (by omega)]; omega
  · rw [icmp_gt (by omega)]; omega
  · rw [icmp_gt (by omega)]; omega
  · rw [sgn_pos h1, sgn_pos h2]
    rcases cmpN_cases m n with ⟨h3, e3⟩ | ⟨h3, e3⟩ | ⟨h3, e3⟩ <;> rw [e3]
    · rw [icmp_lt (by omega)]; omega
    · rw [icmp_eq (by omega)]; omega
    · rw [icmp_gt (by omega)]; omega
theorem isgn_bd (x : Int) : -1 ≤ isgn x ∧ isgn x ≤ 1 := by
  rcases isgn_cases x with ⟨_, e⟩ | ⟨_, e⟩ | ⟨_, e⟩ <;> rw [e] <;> omega
theorem cmpN_bd (m n : Nat) : -1 ≤ cmpN m n ∧ cmpN m n ≤ 1 := by
  rcases cmpN_cases m n with ⟨_, e⟩ | ⟨_, e⟩ | ⟨_, e⟩ <;> rw [e] <;> omega
theorem mul_bd1 {s c : Int} (h1 : -1 ≤ s ∧ s ≤ 1) (h2 : -1 ≤ c ∧ c ≤ 1) : -1 ≤ s * c ∧ s * c ≤ 1 := by
  obtain ⟨a, b⟩ := h1
  have : s = -1 ∨ s = 0 ∨ s = 1 := by omega
  rcases this with rfl | rfl | rfl <;> omega
theorem wrap_negneg {x : Int} (h1 : -9223372036854775808 ≤ x) (h0 : x < 0) : IntKind.u64.wrap (-IntKind.u64.wrap x) = ((x.natAbs : Nat) : Int) := by
  rw [IntKind.wrap_u64, IntKind.wrap_u64]; omega
theorem wrap_back {m : Nat} (h : m ≤ 9223372036854775808) : wrap64 (IntKind.u64.wrap (-(m : Int))) = -(m : Int) := by
  rw [IntKind.wrap_u64]
  unfold wrap64
  omega
theorem fromUintI {w : World} {x : Int} (h0 : 0 ≤ x) (h : x < 18446744073709551616) : Calls Tryz.prog 217 #[.int .u64 x] w (RetN w x.natAbs 2) := by
  obtain ⟨n, rfl⟩ := Int.eq_ofNat_of_zero_le h0
  exact fromUintW (by omega)
/-- What Int64 returns. -/
def int64V (x : Int) : Value := .tuple #[.int .i64 (if -9223372036854775808 ≤ x ∧ x < 9223372036854775808 then x else 0), .bool (decide (-9223372036854775808 ≤ x ∧ x < 9223372036854775808))]
theorem int64V_in {x : Int} (h : -9223372036854775808 ≤ x ∧ x < 9223372036854775808) : int64V x = .tuple #[.int .i64 x, .bool true] := by
  unfold int64V; rw [if_pos h, decide_eq_true h]
theorem int64V_out {x : Int} (h : ¬ (-9223372036854775808 ≤ x ∧ x < 9223372036854775808)) : int64V x = .tuple #[.int .i64 0, .bool false] := by
  unfold int64V; rw [if_neg h, decide_eq_false h]
end Go.Proofs.YtdlnoeegboapkaaGreatDoor

/- Integers: the contracts of DivMod and Normal. printed by a small program (mkint2.py). -/
namespace Go.Proofs.YtdlnoeegboapkaaGreatDoor
open Go.RowKit

theorem dm_pos {g2 : Bool} {m n : Nat} : sgn g2 (m / n) = (m : Int) / sgn g2 n ∧ ((m % n : Nat) : Int) = (m : Int) % sgn g2 n := by
  cases g2
  · simp [sgn]
  · simp [sgn, Int.ediv_neg]
theorem dm_neg0 {g2 : Bool} {m n : Nat} (hn : n ≠ 0) (h : m % n = 0) : sgn (!g2) (m / n) = -(m : Int) / sgn g2 n ∧ ((m % n : Nat) : Int) = -(m : Int) % sgn g2 n := by
  have e1 : (m : Int) = n * ((m / n : Nat) : Int) := by
    have := Nat.div_add_mod m n
    rw [h, Nat.add_zero] at this
    rw [← Int.natCast_mul, this]
  have e2 : (-(m : Int)) / (n : Int) = -((m / n : Nat) : Int) ∧ (-(m : Int)) % (n : Int) = 0 := by
    have hu : (-(m : Int)) = (n : Int) * (-((m / n : Nat) : Int)) := by rw [Int.mul_neg, ← e1]
    rw [hu]
    exact ⟨Int.mul_ediv_cancel_left _ (by omega), Int.mul_emod_right _ _⟩
  rw [h]
  cases g2
  · simp only [sgn_false, Bool.not_false, sgn_true]
    exact ⟨e2.1.symm, e2.2.symm⟩
  · simp only [sgn_false, Bool.not_true, sgn_true, Int.ediv_neg, Int.emod_neg]
    exact ⟨by rw [e2.1, Int.neg_neg], e2.2.symm⟩
theorem dm_neg {g2 : Bool} {m n : Nat} (hn : n ≠ 0) (h : m % n ≠ 0) : sgn (!g2) (m / n + 1) = -(m : Int) / sgn g2 n ∧ ((n - m % n : Nat) : Int) = -(m : Int) % sgn g2 n := by
  have hlt := Nat.mod_lt m (Nat.pos_of_ne_zero hn)
  have e1 : (m : Int) = n * ((m / n : Nat) : Int) + ((m % n : Nat) : Int) := by
    have := Nat.div_add_mod m n
    rw [← Int.natCast_mul, ← Int.natCast_add, this]
  generalize m / n = q at *
  generalize m % n = r at *
  have e2 : (-(m : Int)) / (n : Int) = -((q : Int) + 1) ∧ (-(m : Int)) % (n : Int) = (n : Int) - r := by
    refine (Int.ediv_emod_unique (by omega)).2 ⟨?_, by omega, by omega⟩
    rw [e1, Int.mul_neg, Int.mul_add, Int.mul_one]
    omega
  cases g2
  · simp only [sgn_false, Bool.not_false, sgn_true]
    exact ⟨by rw [e2.1]; omega, by rw [e2.2]; omega⟩
  · simp only [sgn_false, Bool.not_true, sgn_true, Int.ediv_neg, Int.emod_neg]
    exact ⟨by rw [e2.1]; omega, by rw [e2.2]; omega⟩
/-- What DivMod returns. -/
def DivZ (w : World) (x y : Int) (k : Nat) (e : Ending) (w' : World) : Prop :=
  ∃ g a l c g2 a2 l2 c2, e = .returned (.tuple #[.agg #[.bool g, .slice a l c], .agg #[.bool g2, .slice a2 l2 c2], .bool (decide (y ≠ 0))]) ∧
    Zz w' g (.slice a l c) (x / y) k ∧ Zz w' g2 (.slice a2 l2 c2) (if y = 0 then 0 else x % y) k ∧ Below w.heap.size w w'
theorem Zz.zero (w : World) (k : Nat) : Zz w false (.slice none 0 0) 0 k := ⟨rfl, Nn.nil w k⟩
theorem sgn_eq0 {g : Bool} {n : Nat} : sgn g n = 0 ↔ n = 0 := by cases g <;> simp [sgn]

end Go.Proofs.YtdlnoeegboapkaaGreatDoor
