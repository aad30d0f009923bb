/-
  Contracts of nat.Mul and num.Product: the product, in new memory.
-/
import Derived.Test.YtlameeijogdckaaGreatSub
namespace Go.Proofs.YtlameeijogdckaaGreat
open Go.RowKit

theorem mul_int {x y : Nat} (hx : x < 4294967296) (hy : y < 4294967296) : (0 : Int) ≤ (x : Int) * (y : Int) ∧ (x : Int) * (y : Int) ≤ 18446744065119617025 := by
  have h : x * y ≤ 4294967295 * 4294967295 := Nat.mul_le_mul (by omega) (by omega)
  rw [← Int.natCast_mul]
  omega
theorem mul_step {L : List Nat} {V i k c x y T m : Nat} (hi : i + m ≤ L.length) (hk : k < m) (hdL : Dig L) (hx : x < 4294967296) (hy : y < 4294967296) (hc : c < 4294967296)
    (hz : ∀ j, i + m ≤ j → L.getD j 0 = 0) (z : Nat) (hgz : L.getD (i + k) 0 = z) (h : val L + 4294967296 ^ (i + k) * c = V + 4294967296 ^ i * (x * T)) :
    Dig (L.set (i + k) ((c + x * y + z) % 4294967296)) ∧ (c + x * y + z) / 4294967296 < 4294967296 ∧ (∀ j, i + m ≤ j → (L.set (i + k) ((c + x * y + z) % 4294967296)).getD j 0 = 0) ∧
      val (L.set (i + k) ((c + x * y + z) % 4294967296)) + 4294967296 ^ (i + (k + 1)) * ((c + x * y + z) / 4294967296) = V + 4294967296 ^ i * (x * (T + 4294967296 ^ k * y)) := by
  subst hgz
  have hz' := dig_get hdL (i + k)
  have hb := mul_bound hx hy hc hz'
  exact ⟨dig_set hdL _ (by omega), by omega, fun j hj => by rw [set_getD_ne _ _ _ _ (by omega)]; exact hz j hj, mul_round (by omega) h⟩
theorem mul_last {L : List Nat} {A b i m c x : Nat} (hL : i + m < L.length) (hz : ∀ j, i + m ≤ j → L.getD j 0 = 0)
    (h : val L + 4294967296 ^ (i + m) * c = A * b + 4294967296 ^ i * (x * b)) :
    (∀ j, i + 1 + m ≤ j → (L.set (i + m) c).getD j 0 = 0) ∧ val (L.set (i + m) c) = (A + 4294967296 ^ i * x) * b := by
  refine ⟨fun j hj => by rw [set_getD_ne _ _ _ _ (by omega)]; exact hz j (by omega), ?_⟩
  rw [last_carry hL (hz _ (Nat.le_refl _)), h, mul_outer rfl]

set_option maxRecDepth 100000 in
set_option maxHeartbeats 2000000 in
theorem mul_any (w : World) (u v : Value) (la lb : List Nat) (hu : Rd w u la) (hv : Rd w v lb) (hla : la.length ≤ 1000000) (hlb : lb.length ≤ 1000000) :
    Calls Tryz.prog 212 #[u, v] w fun e w' => ∃ z, e = .returned z ∧ Own w' w.heap.size z (nf (val la * val lb)) ∧ Below w.heap.size w w' := by
  have hle1 := nf_val_len hu.dig
  have hle2 := nf_val_len hv.dig
  go_enter Tryz.func212, Tryz.ntmps212
  go_wp2_with fail
  refine (trim_any _ _ _ hu).mono ?_
  rintro e w1 ⟨u', rfl, hu', rfl⟩
  go_wp2_with fail
  refine (trim_any _ _ _ hv).mono ?_
  rintro e w1 ⟨v', rfl, hv', rfl⟩
  have hva := Lib.hid (val_nf (val la))
  have hvb := Lib.hid (val_nf (val lb))
  generalize nf (val la) = xs at *
  generalize nf (val lb) = ys at *
  obtain ⟨a, capa, rfl, _, _, hda, hra⟩ := hu'
  obtain ⟨b, capb, rfl, _, _, hdb, hrb⟩ := hv'
  have hx1 : xs.length ≤ 1000000 := by omega
  have hy1 : ys.length ≤ 1000000 := by omega
  clear hu hv hle1 hle2 hla hlb
  go_wp2_with (at_make; go_loud (refine make_u32 _ rfl (.tmp 19) (.tmp 19) 23 rfl Tryz.underlying23 _ _ (xs.length + ys.length) rfl rfl (by omega) (by omega) (by omega) ?_); intro w1 R0 B0)
  go_loopw [23] (fun i wr => ∃ (k : Nat) (L : List Nat), k ≤ xs.length ∧ i = .int .i64 k ∧ Row wr w.heap.size w.heap.size (xs.length + ys.length) L ∧ Hid (L.length = xs.length + ys.length) ∧ Below w.heap.size w wr ∧
      Hid (∀ j, k + ys.length ≤ j → L.getD j 0 = 0) ∧ Hid (val L = val (xs.take k) * val ys)) (fun i _ => xs.length - (intOf i).toNat)
  case atStart => exact ⟨0, _, Nat.zero_le _, rfl, R0, by show _ = _; simp, B0, fun j _ => getD_replicate _ _, by show _ = _; simp [val_replicate, val_nil]⟩
  case round =>
    obtain ⟨i, L0, hi, rfl, hR0, hL0, hB0, hz0, hv0⟩ := hrel
    obtain ⟨wo, hwo⟩ : ∃ wo : World, wo = wr := ⟨_, rfl⟩
    subst hwo
    by_cases hlt : i < xs.length
    · obtain ⟨ba, offa, rfl, cA⟩ := hra.at hB0 hlt
      have hx := dig_get hda i
      have HX := Lib.hid (val_take_snoc xs i hlt)
      generalize xs.getD i 0 = x at *
      have hrow0 := hR0.lt
      go_wp2
      go_loopw [8, 30] (fun c i' wr => ∃ (k cn : Nat) (L : List Nat), k ≤ ys.length ∧ i' = .int .i64 k ∧ c = .int .u64 cn ∧ cn < 4294967296 ∧ Row wr w.heap.size w.heap.size (xs.length + ys.length) L ∧ Hid (L.length = xs.length + ys.length) ∧ Below w.heap.size w wr ∧
          Hid (∀ j, i + ys.length ≤ j → L.getD j 0 = 0) ∧ Hid (val L + 4294967296 ^ (i + k) * cn = val (xs.take i) * val ys + 4294967296 ^ i * (x * val (ys.take k)))) (fun _ i' _ => ys.length - (intOf i').toNat)
      case atStart => exact ⟨0, 0, L0, Nat.zero_le _, rfl, rfl, by omega, hR0, hL0, hB0, hz0, by show _ = _; rw [hv0.out]; simp [val_nil]⟩
      case round =>
        obtain ⟨k, cn, L, hk, rfl, rfl, hcn, hR, hL, hB, hz, hv⟩ := hrel
        have hRl := hR.lt
        have hRc := hR.cap
        by_cases hltb : k < ys.length
        · obtain ⟨bb, offb, rfl, cB⟩ := hrb.at hB hltb
          have hy := dig_get hdb k
          have hst := fun y => @mul_step L (val (xs.take i) * val ys) i k cn x y (val (ys.take k)) ys.length (by rw [hL.out]; omega) hltb hR.dig hx
          have hvt := val_take_snoc ys k hltb
          generalize ys.getD k 0 = y at *
          have cR := hR.cell (j := i + k) (by rw [hL.out]; omega)
          have fR := hR.free (i + k)
          have hdz := dig_get hR.dig (i + k)
          have hst := hst y hy hcn hz.out (L.getD (i + k) 0) rfl hv.out
          generalize L.getD (i + k) 0 = z at *
          rw [← hvt] at hst
          have HST := Lib.hid hst
          have hm := mul_int hx hy
          clear hst hvt hra hrb
          go_wp2
          go_roundw
          case rel =>
            obtain ⟨s1, s2, s3, s4⟩ := HST.out
            have e0 : (cn : Int) + ((x : Int) * (y : Int) + (z : Int)) = ((cn + x * y + z : Nat) : Int) := by
              rw [Int.natCast_add, Int.natCast_add, Int.natCast_mul]; omega
            rw [e0]
            have e1 : ((cn + x * y + z : Nat) : Int) % 4294967296 = (((cn + x * y + z) % 4294967296 : Nat) : Int) := by omega
            rw [e1]
            exact ⟨k + 1, (cn + x * y + z) / 4294967296, _, by omega, by go_num, by go_num, s2, hR.set (i + k) (by omega), by show _ = _; rw [List.length_set]; exact hL.out, hB.setCell (Nat.le_refl _) _, s3, s4⟩
          case measure => simp [intOf]; omega
        · have hkl : k = ys.length := by omega
          subst hkl
          have cR := hR.cell (j := i + ys.length) (by rw [hL.out]; omega)
          have fR := hR.free (i + ys.length)
          generalize L.getD (i + ys.length) 0 = z at *
          have hv2 := hv.out
          rw [List.take_length] at hv2
          have hst := mul_last (by rw [hL.out]; omega) hz.out hv2
          rw [← HX.out] at hst
          have HST := Lib.hid hst
          clear hst hv2 hra hrb
          go_wp2
          go_roundw
          case rel =>
            obtain ⟨s1, s2⟩ := HST.out
            exact ⟨i + 1, _, by omega, by go_num, hR.set (i + ys.length) hcn, by show _ = _; rw [List.length_set]; exact hL.out, hB.setCell (Nat.le_refl _) _, s1, s2⟩
          case measure => simp [intOf]; omega
    · have hil : i = xs.length := by omega
      subst hil
      have hv2 := hv0.out
      rw [List.take_length] at hv2
      have HV := Lib.hid hv2
      clear hv2 hra hrb
      go_wp2_with (go_at_call 227; refine (trim_row _ _ _ _ _ _ hR0 hL0.out).mono ?_; rintro e w2 ⟨v, rfl, ho, rfl⟩)
      go_ret
      rw [HV.out, hva.out, hvb.out] at ho
      exact ⟨v, rfl, ho, hB0⟩
end Go.Proofs.YtlameeijogdckaaGreat
