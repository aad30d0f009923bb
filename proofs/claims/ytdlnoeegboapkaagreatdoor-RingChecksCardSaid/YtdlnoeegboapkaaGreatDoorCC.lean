/-
  Texts of this claim, joined: Sub, Mul, Short, Bytes, Dec, Format, Add, DivMod.
-/
import Derived.Test.YtdlnoeegboapkaaGreatDoorCB
import Derived.Test.YtdlnoeegboapkaaGreatDoorCA
import Derived.Laws.BytesArg
/- Contracts of nat.less, nat.Sub and num.Less: the difference, in new memory. -/
namespace Go.Proofs.YtdlnoeegboapkaaGreatDoor
open Go.RowKit
set_option maxRecDepth 100000
set_option maxHeartbeats 40000000
set_option synthInstance.maxSize 100000
set_option synthInstance.maxHeartbeats 1000000

/-- The loop's arithmetic: digit k of a - b, borrow c. -/
theorem sub_step {la lb L : List Nat} {c k d c' x y : Nat} (hL : L.length = la.length) (hz : ∀ j, k ≤ j → L.getD j 0 = 0) (hk : k < la.length) (hx : la.getD k 0 = x)
    (h : val L + val (lb.take k) = val (la.take k) + 4294967296 ^ k * c) (hy : (k < lb.length ∧ lb.getD k 0 = y) ∨ (lb.length ≤ k ∧ y = 0)) (hd : d + y + c = x + 4294967296 * c') :
    (∀ j, k + 1 ≤ j → (L.set k d).getD j 0 = 0) ∧ val (L.set k d) + val (lb.take (k + 1)) = val (la.take (k + 1)) + 4294967296 ^ (k + 1) * c' := by
  have hb : val (lb.take (k + 1)) = val (lb.take k) + 4294967296 ^ k * y := by
    rcases hy with ⟨hy, rfl⟩ | ⟨hy, rfl⟩
    · exact val_take_snoc lb k hy
    · rw [List.take_of_length_le (by omega), List.take_of_length_le hy]; simp
  have h2 := borrow_round (L := L) (A := val (la.take k)) (C := val (lb.take k)) (j := k) (c := c) (c' := c') (d := d) (x := x) (y := y) (by omega) (hz k (Nat.le_refl _)) h hd
  refine ⟨fun j hj => ?_, ?_⟩
  · rw [set_getD_ne _ _ _ _ (by omega)]; exact hz j (by omega)
  · rw [hb, val_take_snoc la k hk, hx, h2]
theorem sub_end {la lb L : List Nat} {c : Nat} (hdL : Dig L) (hL : L.length = la.length) (hlen : lb.length ≤ la.length) (hle : val lb ≤ val la)
    (h : val L + val (lb.take la.length) = val (la.take la.length) + 4294967296 ^ la.length * c) : val L = val la - val lb := by
  rw [List.take_length, List.take_of_length_le hlen] at h
  have h1 := val_lt L hdL
  rw [hL] at h1
  rcases Nat.eq_zero_or_pos c with h0 | h0
  · subst h0; omega
  · exfalso
    have : 4294967296 ^ la.length * 1 ≤ 4294967296 ^ la.length * c := Nat.mul_le_mul_left _ h0
    omega

theorem wrap_neg (z : Int) (h1 : -18446744073709551616 ≤ z) (h2 : z < 0) : IntKind.u64.wrap z = z + 18446744073709551616 := by
  rw [IntKind.wrap_u64]; omega

theorem less_raw (w : World) (a b : Option Addr) (capa capb : Nat) (la lb : List Nat) (hlen : lb.length ≤ la.length) (hle : val lb ≤ val la) (hla : la.length ≤ 1000000)
    (hda : Dig la) (hdb : Dig lb) (hra : Cells w a la) (hrb : Cells w b lb) :
    Calls Tryz.prog 292 #[.slice a la.length capa, .slice b lb.length capb] w fun e w' => ∃ v, e = .returned v ∧ Own w' w.heap.size v (nf (val la - val lb)) ∧ Below w.heap.size w w' := by
  have HLE := Lib.hid hle
  clear hle
  go_enter Tryz.func292, Tryz.ntmps292
  go_wp2_with (at_make; go_loud (refine make_u32 _ rfl (.tmp 12) (.tmp 12) 25 rfl Tryz.underlying25 _ _ la.length rfl rfl (by omega) (by omega) (by omega) ?_); intro w1 R0 B0)
  go_loopw [6, 16] (fun c i wr => ∃ (k cn : Nat) (L : List Nat), k ≤ la.length ∧ i = .int .i64 k ∧ c = .int .u64 cn ∧ cn ≤ 1 ∧ Row wr w.heap.size w.heap.size la.length L ∧ Hid (L.length = la.length) ∧ Below w.heap.size w wr ∧
      Hid (∀ j, k ≤ j → L.getD j 0 = 0) ∧ Hid (val L + val (lb.take k) = val (la.take k) + 4294967296 ^ k * cn)) (fun _ i _ => la.length - (intOf i).toNat)
  case atStart => exact ⟨0, 0, _, Nat.zero_le _, rfl, rfl, by omega, R0, by show _ = _; simp, B0, fun j _ => getD_replicate _ _, by show _ = _; simp [val_replicate, val_nil]⟩
  case round =>
    obtain ⟨k, cn, L, hk, rfl, rfl, hcn, hR, hL, hB, hz, hv⟩ := hrel
    have hRc := hR.cap
    have hRl := hR.lt
    by_cases hlt : k < la.length
    · obtain ⟨ba, offa, rfl, cA⟩ := hra.at hB hlt
      have hst := fun x y d c' => @sub_step la lb L cn k d c' x y hL.out hz.out hlt
      have cR := hR.cell (j := k) (by rw [hL.out]; omega)
      have fR := hR.free k
      have hx := dig_get hda k
      generalize hgx : la.getD k 0 = x at *
      have hst := fun y d c' => hst x y d c' rfl hv.out
      clear hgx
      generalize L.getD k 0 = z at *
      by_cases hltb : k < lb.length
      · obtain ⟨bb, offb, rfl, cB⟩ := hrb.at hB hltb
        have hy := dig_get hdb k
        generalize hgy : lb.getD k 0 = y at *
        have hst := fun d c' => hst y d c' (.inl ⟨hltb, rfl⟩)
        clear hgy
        by_cases hge : cn + y ≤ x
        · have HST := Lib.hid (hst (x - y - cn) 0 (by omega))
          clear hst hra hrb
          go_wp2
          go_roundw
          case rel =>
            obtain ⟨s1, s2⟩ := HST.out
            rw [show ((x : Int) - ((cn : Int) + (y : Int))) = ((x - y - cn : Nat) : Int) by omega]
            exact ⟨k + 1, 0, _, by omega, by go_num, by go_num, by omega, hR.set k (by omega), by show _ = _; rw [List.length_set]; exact hL.out, hB.setCell (Nat.le_refl _) _, s1, s2⟩
          case measure => simp [intOf]; omega
        · have HST := Lib.hid (hst (x + 4294967296 - y - cn) 1 (by omega))
          clear hst hra hrb
          go_wp2
          go_roundw
          case rel =>
            obtain ⟨s1, s2⟩ := HST.out
            rw [wrap_neg _ (by omega) (by omega), show (((x : Int) - ((cn : Int) + (y : Int))) + 18446744073709551616) % 4294967296 = ((x + 4294967296 - y - cn : Nat) : Int) by omega]
            exact ⟨k + 1, 1, _, by omega, by go_num, by go_num, by omega, hR.set k (by omega), by show _ = _; rw [List.length_set]; exact hL.out, hB.setCell (Nat.le_refl _) _, s1, s2⟩
          case measure => simp [intOf]; omega
      · have hst := fun d c' => hst 0 d c' (.inr ⟨by omega, rfl⟩)
        by_cases hge : cn ≤ x
        · have HST := Lib.hid (hst (x - 0 - cn) 0 (by omega))
          clear hst hra hrb
          go_wp2
          go_roundw
          case rel =>
            obtain ⟨s1, s2⟩ := HST.out
            rw [show ((x : Int) - (cn : Int)) = ((x - 0 - cn : Nat) : Int) by omega]
            exact ⟨k + 1, 0, _, by omega, by go_num, by go_num, by omega, hR.set k (by omega), by show _ = _; rw [List.length_set]; exact hL.out, hB.setCell (Nat.le_refl _) _, s1, s2⟩
          case measure => simp [intOf]; omega
        · have HST := Lib.hid (hst (x + 4294967296 - 0 - cn) 1 (by omega))
          clear hst hra hrb
          go_wp2
          go_roundw
          case rel =>
            obtain ⟨s1, s2⟩ := HST.out
            rw [wrap_neg _ (by omega) (by omega), show (((x : Int) - (cn : Int)) + 18446744073709551616) % 4294967296 = ((x + 4294967296 - 0 - cn : Nat) : Int) by omega]
            exact ⟨k + 1, 1, _, by omega, by go_num, by go_num, by omega, hR.set k (by omega), by show _ = _; rw [List.length_set]; exact hL.out, hB.setCell (Nat.le_refl _) _, s1, s2⟩
          case measure => simp [intOf]; omega
    · have hkl : k = la.length := by omega
      subst hkl
      have HV := Lib.hid (sub_end hR.dig hL.out hlen HLE.out hv.out)
      clear hra hrb
      go_wp2_with (go_at_call 191; refine (trim_row _ _ _ _ _ _ hR hL.out).mono ?_; rintro e w2 ⟨v, rfl, ho, rfl⟩)
      go_ret
      rw [HV.out] at ho
      exact ⟨v, rfl, ho, hB⟩

/-- What Sub returns. -/
def SubPost (w : World) (m n : Nat) (e : Ending) (w' : World) : Prop :=
  ∃ z, e = .returned (.tuple #[z, .bool (decide (n ≤ m))]) ∧ Own w' w.heap.size z (nf (m - n)) ∧ Below w.heap.size w w'
theorem sub_any (w : World) (u v : Value) (la lb : List Nat) (hu : Rd w u la) (hv : Rd w v lb) (hla : la.length ≤ 1000000) :
    Calls Tryz.prog 273 #[u, v] w (SubPost w (val la) (val lb)) := by
  have hle := nf_val_len hu.dig
  go_enter Tryz.func273, Tryz.ntmps273
  go_wp2_with fail
  refine (natCmp_any _ _ _ _ _ hu hv).mono ?_
  rintro e w1 ⟨rfl, hb1⟩
  by_cases hlt : val la < val lb
  · rw [cmpN_lt hlt]
    have HD := Lib.hid (decide_eq_false (show ¬ val lb ≤ val la by omega))
    have HZ := Lib.hid (show val la - val lb = 0 by omega)
    clear hlt
    go_wp2
    go_ret2
    exact ⟨_, by rw [HD.out]; rfl, by rw [HZ.out]; exact Own.nil _ _, hb1⟩
  · have hge : 0 ≤ cmpN (val la) (val lb) := by unfold cmpN; rw [if_neg hlt]; split <;> omega
    have HD := Lib.hid (decide_eq_true (show val lb ≤ val la by omega))
    generalize cmpN (val la) (val lb) = c at *
    go_wp2_with fail
    refine (trim_any _ _ _ (hu.keep hb1)).mono ?_
    rintro e w2 ⟨u', rfl, hu', rfl⟩
    go_wp2_with fail
    refine (trim_any _ _ _ (hv.keep hb1)).mono ?_
    rintro e w2 ⟨v', rfl, hv', rfl⟩
    go_wp2_with fail
    obtain ⟨a, capa, rfl, _, _, hda, hra⟩ := hu'
    obtain ⟨b, capb, rfl, _, _, hdb, hrb⟩ := hv'
    refine (less_raw w1 a b capa capb _ _ (nf_len_mono (by omega)) (by rw [val_nf, val_nf]; omega) (by omega) hda hdb hra hrb).mono ?_
    rintro e w3 ⟨z, rfl, hz, hb3⟩
    rw [val_nf, val_nf] at hz
    go_wp2
    go_ret2
    exact ⟨_, by rw [HD.out]; rfl, hz.mono hb1.size, hb1.trans (hb3.mono hb1.size)⟩
end Go.Proofs.YtdlnoeegboapkaaGreatDoor

/- Contracts of nat.Mul and num.Product: the product, in new memory. -/
namespace Go.Proofs.YtdlnoeegboapkaaGreatDoor
open Go.RowKit
set_option maxRecDepth 100000
set_option maxHeartbeats 40000000
set_option synthInstance.maxSize 100000
set_option synthInstance.maxHeartbeats 1000000

theorem mul_int {x y : Nat} (hx : x < 4294967296) (hy : y < 4294967296) : (0 : Int) ≤ (x : Int) * (y : Int) ∧ (x : Int) * (y : Int) ≤ 18446744065119617025 := by
  have h : x * y ≤ 4294967295 * 4294967295 := Nat.mul_le_mul (by omega) (by omega)
  rw [← Int.natCast_mul]
  omega
theorem mul_step {L : List Nat} {V i k c x y T m : Nat} (hi : i + m ≤ L.length) (hk : k < m) (hdL : Dig L) (hx : x < 4294967296) (hy : y < 4294967296) (hc : c < 4294967296)
    (hz : ∀ j, i + m ≤ j → L.getD j 0 = 0) (z : Nat) (hgz : L.getD (i + k) 0 = z) (h : val L + 4294967296 ^ (i + k) * c = V + 4294967296 ^ i * (x * T)) :
    Dig (L.set (i + k) ((c + x * y + z) % 4294967296)) ∧ (c + x * y + z) / 4294967296 < 4294967296 ∧ (∀ j, i + m ≤ j → (L.set (i + k) ((c + x * y + z) % 4294967296)).getD j 0 = 0) ∧
      val (L.set (i + k) ((c + x * y + z) % 4294967296)) + 4294967296 ^ (i + (k + 1)) * ((c + x * y + z) / 4294967296) = V + 4294967296 ^ i * (x * (T + 4294967296 ^ k * y)) := by
  subst hgz
  have hz' := dig_get hdL (i + k)
  have hb := mul_bound hx hy hc hz'
  exact ⟨dig_set hdL _ (by omega), by omega, fun j hj => by rw [set_getD_ne _ _ _ _ (by omega)]; exact hz j hj, mul_round (by omega) h⟩
theorem mul_last {L : List Nat} {A b i m c x : Nat} (hL : i + m < L.length) (hz : ∀ j, i + m ≤ j → L.getD j 0 = 0)
    (h : val L + 4294967296 ^ (i + m) * c = A * b + 4294967296 ^ i * (x * b)) :
    (∀ j, i + 1 + m ≤ j → (L.set (i + m) c).getD j 0 = 0) ∧ val (L.set (i + m) c) = (A + 4294967296 ^ i * x) * b := by
  refine ⟨fun j hj => by rw [set_getD_ne _ _ _ _ (by omega)]; exact hz j (by omega), ?_⟩
  rw [last_carry hL (hz _ (Nat.le_refl _)), h, mul_outer rfl]

theorem mul_any (w : World) (u v : Value) (la lb : List Nat) (hu : Rd w u la) (hv : Rd w v lb) (hla : la.length ≤ 1000000) (hlb : lb.length ≤ 1000000) :
    Calls Tryz.prog 212 #[u, v] w fun e w' => ∃ z, e = .returned z ∧ Own w' w.heap.size z (nf (val la * val lb)) ∧ Below w.heap.size w w' := by
  have hle1 := nf_val_len hu.dig
  have hle2 := nf_val_len hv.dig
  go_enter Tryz.func212, Tryz.ntmps212
  go_wp2_with fail
  refine (trim_any _ _ _ hu).mono ?_
  rintro e w1 ⟨u', rfl, hu', rfl⟩
  go_wp2_with fail
  refine (trim_any _ _ _ hv).mono ?_
  rintro e w1 ⟨v', rfl, hv', rfl⟩
  have hva := Lib.hid (val_nf (val la))
  have hvb := Lib.hid (val_nf (val lb))
  generalize nf (val la) = xs at *
  generalize nf (val lb) = ys at *
  obtain ⟨a, capa, rfl, _, _, hda, hra⟩ := hu'
  obtain ⟨b, capb, rfl, _, _, hdb, hrb⟩ := hv'
  have hx1 : xs.length ≤ 1000000 := by omega
  have hy1 : ys.length ≤ 1000000 := by omega
  clear hu hv hle1 hle2 hla hlb
  go_wp2_with (at_make; go_loud (refine make_u32 _ rfl (.tmp 19) (.tmp 19) 25 rfl Tryz.underlying25 _ _ (xs.length + ys.length) rfl rfl (by omega) (by omega) (by omega) ?_); intro w1 R0 B0)
  go_loopw [23] (fun i wr => ∃ (k : Nat) (L : List Nat), k ≤ xs.length ∧ i = .int .i64 k ∧ Row wr w.heap.size w.heap.size (xs.length + ys.length) L ∧ Hid (L.length = xs.length + ys.length) ∧ Below w.heap.size w wr ∧
      Hid (∀ j, k + ys.length ≤ j → L.getD j 0 = 0) ∧ Hid (val L = val (xs.take k) * val ys)) (fun i _ => xs.length - (intOf i).toNat)
  case atStart => exact ⟨0, _, Nat.zero_le _, rfl, R0, by show _ = _; simp, B0, fun j _ => getD_replicate _ _, by show _ = _; simp [val_replicate, val_nil]⟩
  case round =>
    obtain ⟨i, L0, hi, rfl, hR0, hL0, hB0, hz0, hv0⟩ := hrel
    obtain ⟨wo, hwo⟩ : ∃ wo : World, wo = wr := ⟨_, rfl⟩
    subst hwo
    by_cases hlt : i < xs.length
    · obtain ⟨ba, offa, rfl, cA⟩ := hra.at hB0 hlt
      have hx := dig_get hda i
      have HX := Lib.hid (val_take_snoc xs i hlt)
      generalize xs.getD i 0 = x at *
      have hrow0 := hR0.lt
      go_wp2
      go_loopw [8, 30] (fun c i' wr => ∃ (k cn : Nat) (L : List Nat), k ≤ ys.length ∧ i' = .int .i64 k ∧ c = .int .u64 cn ∧ cn < 4294967296 ∧ Row wr w.heap.size w.heap.size (xs.length + ys.length) L ∧ Hid (L.length = xs.length + ys.length) ∧ Below w.heap.size w wr ∧
          Hid (∀ j, i + ys.length ≤ j → L.getD j 0 = 0) ∧ Hid (val L + 4294967296 ^ (i + k) * cn = val (xs.take i) * val ys + 4294967296 ^ i * (x * val (ys.take k)))) (fun _ i' _ => ys.length - (intOf i').toNat)
      case atStart => exact ⟨0, 0, L0, Nat.zero_le _, rfl, rfl, by omega, hR0, hL0, hB0, hz0, by show _ = _; rw [hv0.out]; simp [val_nil]⟩
      case round =>
        obtain ⟨k, cn, L, hk, rfl, rfl, hcn, hR, hL, hB, hz, hv⟩ := hrel
        have hRl := hR.lt
        have hRc := hR.cap
        by_cases hltb : k < ys.length
        · obtain ⟨bb, offb, rfl, cB⟩ := hrb.at hB hltb
          have hy := dig_get hdb k
          have hst := fun y => @mul_step L (val (xs.take i) * val ys) i k cn x y (val (ys.take k)) ys.length (by rw [hL.out]; omega) hltb hR.dig hx
          have hvt := val_take_snoc ys k hltb
          generalize ys.getD k 0 = y at *
          have cR := hR.cell (j := i + k) (by rw [hL.out]; omega)
          have fR := hR.free (i + k)
          have hdz := dig_get hR.dig (i + k)
          have hst := hst y hy hcn hz.out (L.getD (i + k) 0) rfl hv.out
          generalize L.getD (i + k) 0 = z at *
          rw [← hvt] at hst
          have HST := Lib.hid hst
          have hm := mul_int hx hy
          clear hst hvt hra hrb
          go_wp2
          go_roundw
          case rel =>
            obtain ⟨s1, s2, s3, s4⟩ := HST.out
            have e0 : (cn : Int) + ((x : Int) * (y : Int) + (z : Int)) = ((cn + x * y + z : Nat) : Int) := by
              rw [Int.natCast_add, Int.natCast_add, Int.natCast_mul]; omega
            rw [e0]
            have e1 : ((cn + x * y + z : Nat) : Int) % 4294967296 = (((cn + x * y + z) % 4294967296 : Nat) : Int) := by omega
            rw [e1]
            exact ⟨k + 1, (cn + x * y + z) / 4294967296, _, by omega, by go_num, by go_num, s2, hR.set (i + k) (by omega), by show _ = _; rw [List.length_set]; exact hL.out, hB.setCell (Nat.le_refl _) _, s3, s4⟩
          case measure => simp [intOf]; omega
        · have hkl : k = ys.length := by omega
          subst hkl
          have cR := hR.cell (j := i + ys.length) (by rw [hL.out]; omega)
          have fR := hR.free (i + ys.length)
          generalize L.getD (i + ys.length) 0 = z at *
          have hv2 := hv.out
          rw [List.take_length] at hv2
          have hst := mul_last (by rw [hL.out]; omega) hz.out hv2
          rw [← HX.out] at hst
          have HST := Lib.hid hst
          clear hst hv2 hra hrb
          go_wp2
          go_roundw
          case rel =>
            obtain ⟨s1, s2⟩ := HST.out
            exact ⟨i + 1, _, by omega, by go_num, hR.set (i + ys.length) hcn, by show _ = _; rw [List.length_set]; exact hL.out, hB.setCell (Nat.le_refl _) _, s1, s2⟩
          case measure => simp [intOf]; omega
    · have hil : i = xs.length := by omega
      subst hil
      have hv2 := hv0.out
      rw [List.take_length] at hv2
      have HV := Lib.hid hv2
      clear hv2 hra hrb
      go_wp2_with (go_at_call 191; refine (trim_row _ _ _ _ _ _ hR0 hL0.out).mono ?_; rintro e w2 ⟨v, rfl, ho, rfl⟩)
      go_ret
      rw [HV.out, hva.out, hvb.out] at ho
      exact ⟨v, rfl, ho, hB0⟩
end Go.Proofs.YtdlnoeegboapkaaGreatDoor

/- Contract of nat.short: division by one digit. -/
namespace Go.Proofs.YtdlnoeegboapkaaGreatDoor
open Go.RowKit
set_option maxRecDepth 100000
set_option maxHeartbeats 40000000
set_option synthInstance.maxSize 100000
set_option synthInstance.maxHeartbeats 1000000

theorem short_step {la L : List Nat} {d r x j : Nat} (hj : j < la.length) (hL : L.length = la.length) (hx : la.getD j 0 = x) (hd : 0 < d) (hr : r < d) (hdL : Dig L) (hda : Dig la)
    (hz : ∀ i, i < j + 1 → L.getD i 0 = 0) (h : 4294967296 ^ (j + 1) * val (la.drop (j + 1)) = val L * d + 4294967296 ^ (j + 1) * r) :
    (x + 4294967296 * r) / d < 4294967296 ∧ (x + 4294967296 * r) % d < d ∧ Dig (L.set j ((x + 4294967296 * r) / d)) ∧ (∀ i, i < j → (L.set j ((x + 4294967296 * r) / d)).getD i 0 = 0) ∧
      4294967296 ^ j * val (la.drop j) = val (L.set j ((x + 4294967296 * r) / d)) * d + 4294967296 ^ j * ((x + 4294967296 * r) % d) := by
  have hx2 := dig_get hda j
  rw [hx] at hx2
  have hq : (r * 4294967296 + x) / d < 4294967296 := short_digit hr hx2
  have e : r * 4294967296 + x = x + 4294967296 * r := by omega
  have h1 := short_round (L := L) (A := 4294967296 ^ (j + 1) * val (la.drop (j + 1))) (r := r) (x := x) (d := d) (j := j) (by omega) (hz j (by omega)) h
  rw [e] at hq h1
  refine ⟨hq, Nat.mod_lt _ hd, dig_set hdL _ hq, fun i hi => by rw [set_getD_ne _ _ _ _ (by omega)]; exact hz i (by omega), ?_⟩
  rw [val_drop_cons la j hj, hx, ← h1, Nat.mul_add, Nat.pow_succ, Nat.mul_assoc]
  omega
theorem short_end {la L : List Nat} {d r : Nat} (hr : r < d) (h : 4294967296 ^ 0 * val (la.drop 0) = val L * d + 4294967296 ^ 0 * r) : val L = val la / d ∧ r = val la % d := by
  rw [Nat.pow_zero, Nat.one_mul, Nat.one_mul, List.drop_zero] at h
  rw [h]
  constructor
  · rw [Nat.mul_comm, Nat.mul_add_div (by omega), Nat.div_eq_of_lt hr]; rfl
  · rw [Nat.mul_comm, Nat.mul_add_mod, Nat.mod_eq_of_lt hr]

/-- What short returns. -/
def ShortPost (w : World) (m d : Nat) (e : Ending) (w' : World) : Prop :=
  ∃ z, e = .returned (.tuple #[z, .int .u32 ((m % d : Nat) : Int)]) ∧ Own w' w.heap.size z (nf (m / d)) ∧ Below w.heap.size w w'
theorem short_any (w : World) (u : Value) (la : List Nat) (d : Nat) (hu : Rd w u la) (hla : la.length ≤ 1000000) (hd : 0 < d) (hdl : d < 4294967296) :
    Calls Tryz.prog 258 #[u, .int .u32 (d : Int)] w (ShortPost w (val la) d) := by
  obtain ⟨a, capa, rfl, _, _, hda, hra⟩ := hu
  go_enter Tryz.func258, Tryz.ntmps258
  go_wp2_with (at_make; go_loud (refine make_u32 _ rfl (.tmp 11) (.tmp 11) 25 rfl Tryz.underlying25 _ _ la.length rfl rfl (by omega) (by omega) (by omega) ?_); intro w1 R0 B0)
  go_loopw [7, 8] (fun c i wr => ∃ (k r : Nat) (L : List Nat), k ≤ la.length ∧ i = .int .i64 ((k : Int) - 1) ∧ c = .int .u64 r ∧ r < d ∧ Row wr w.heap.size w.heap.size la.length L ∧ Hid (L.length = la.length) ∧ Below w.heap.size w wr ∧
      Hid (∀ j, j < k → L.getD j 0 = 0) ∧ Hid (4294967296 ^ k * val (la.drop k) = val L * d + 4294967296 ^ k * r)) (fun _ i _ => (intOf i + 1).toNat)
  case atStart => exact ⟨la.length, 0, _, Nat.le_refl _, rfl, rfl, hd, R0, by show _ = _; simp, B0, fun j _ => getD_replicate _ _, by show _ = _; simp [val_replicate, val_nil]⟩
  case round =>
    obtain ⟨k, r, L, hk, rfl, rfl, hr, hR, hL, hB, hz, hv⟩ := hrel
    have hRl := hR.lt
    have hRc := hR.cap
    by_cases hk1 : 1 ≤ k
    · obtain ⟨j, rfl⟩ : ∃ j, k = j + 1 := ⟨k - 1, by omega⟩
      obtain ⟨ba, offa, rfl, cA⟩ := hra.at hB (k := j) (by omega)
      have hx := dig_get hda j
      have hst := fun x hx => @short_step la L d r x j (by omega) hL.out hx hd hr hR.dig hda hz.out hv.out
      have hst := hst _ rfl
      generalize la.getD j 0 = x at *
      have cR := hR.cell (j := j) (by rw [hL.out]; omega)
      have fR := hR.free j
      generalize L.getD j 0 = z at *
      have hor := high_or x r hx (by omega)
      have b0 : (0 : Int) ≤ (j : Int) := by omega
      have b1 : (j : Int) < (la.length : Int) := by omega
      have e1 : ((x : Int) + 4294967296 * (r : Int)) / (d : Int) = (((x + 4294967296 * r) / d : Nat) : Int) := by rw [Int.natCast_ediv, Int.natCast_add, Int.natCast_mul]; rfl
      have e2 : ((x : Int) + 4294967296 * (r : Int)) % (d : Int) = (((x + 4294967296 * r) % d : Nat) : Int) := by rw [Int.natCast_emod, Int.natCast_add, Int.natCast_mul]; rfl
      have q1 : ((x : Int) + 4294967296 * (r : Int)) / (d : Int) < 4294967296 := by rw [e1]; have := hst.1; omega
      have q2 : (0 : Int) ≤ ((x : Int) + 4294967296 * (r : Int)) / (d : Int) := by rw [e1]; exact Int.natCast_nonneg _
      have q3 : (0 : Int) ≤ ((x : Int) + 4294967296 * (r : Int)) % (d : Int) := by rw [e2]; exact Int.natCast_nonneg _
      have q4 : ((x : Int) + 4294967296 * (r : Int)) % (d : Int) < (d : Int) := by rw [e2]; have := hst.2.1; omega
      have E1 := Lib.hid e1
      have E2 := Lib.hid e2
      clear e1 e2
      have HST := Lib.hid hst
      clear hst hra
      go_wp2
      go_roundw
      case rel =>
        obtain ⟨s1, s2, s3, s4, s5⟩ := HST.out
        rw [E1.out, E2.out]
        exact ⟨j, (x + 4294967296 * r) % d, _, by omega, by go_num, rfl, s2, hR.set j s1, by show _ = _; rw [List.length_set]; exact hL.out, hB.setCell (Nat.le_refl _) _, s4, s5⟩
      case measure => simp [intOf]
    · obtain rfl : k = 0 := by omega
      have hst := short_end hr hv.out
      have HST := Lib.hid hst
      clear hst hra
      go_wp2_with (go_at_call 191; refine (trim_row _ _ _ _ _ _ hR hL.out).mono ?_; rintro e w2 ⟨v, rfl, ho, rfl⟩)
      go_ret2
      obtain ⟨s1, s2⟩ := HST.out
      rw [s1] at ho
      refine ⟨v, ?_, ho, hB⟩
      rw [← s2]
      rfl
end Go.Proofs.YtdlnoeegboapkaaGreatDoor

/- Rows of bytes that the call itself has made: appending to them, reversing them (slices.Reverse), and what string(..) makes of them. -/
namespace Go.Proofs.YtdlnoeegboapkaaGreatDoor
open Go.RowKit
set_option maxRecDepth 100000
set_option maxHeartbeats 40000000
set_option synthInstance.maxSize 100000
set_option synthInstance.maxHeartbeats 1000000

theorem info_u8 : (Tryz.prog.info? 5).map (fun i => (i.zero, i.size, i.bytes)) = some (some (.int .u8 0), 1, 1) := by kernel_rfl
def dvb (d : Nat) : Value := .int .u8 (d : Int)
def OwnB (w : World) (base : Nat) (v : Value) (l : List Nat) : Prop := w.ownsRow base 5 1 v l.length (l.map dvb)
def RowB (w : World) (base g cap : Nat) (l : List Nat) : Prop := OwnB w base (.slice (some ⟨g, 0, none⟩) l.length cap) l

theorem map_dvb_get (l : List Nat) (j : Nat) (h : j < l.length) : (l.map dvb)[j]? = some (.int .u8 ((l.getD j 0 : Nat) : Int)) := by
  rw [List.getElem?_map, List.getElem?_eq_getElem h, List.getD_eq_getElem?_getD, List.getElem?_eq_getElem h]; rfl
theorem OwnB.shape {w : World} {base : Nat} {v : Value} {l : List Nat} (h : OwnB w base v l) : (v = .slice none 0 0 ∧ l = []) ∨ ∃ g cap, v = .slice (some ⟨g, 0, none⟩) l.length cap ∧ base ≤ g ∧ g < w.heap.size ∧ l.length ≤ cap ∧ cap ≤ 9223372036854775807 ∧ RowB w base g cap l := by
  have h' := h
  rcases h.2 with ⟨rfl, h0⟩ | ⟨g, cap, cur, rfl, hb, hg, hnc, hcm, hcs, htake⟩
  · exact .inl ⟨rfl, List.eq_nil_of_length_eq_zero h0⟩
  · refine .inr ⟨g, cap, rfl, hb, ?_, hnc, hcm, h'⟩
    rcases Nat.lt_or_ge g w.heap.size with hlt | hge
    · exact hlt
    · rw [Array.getElem?_eq_none hge] at hg; cases hg
theorem OwnB.nil (w : World) (base : Nat) : OwnB w base (.slice none 0 0) [] := World.ownsRow_nil _ _ _ _
theorem OwnB.keep {w w' : World} {base : Nat} {v : Value} {l : List Nat} (h : OwnB w base v l) (hb : Below w.heap.size w w') : OwnB w' base v l := by
  refine ⟨h.1, ?_⟩
  rcases h.2 with h0 | ⟨g, cap, cur, e, hg, hh, rest⟩
  · exact .inl h0
  · refine .inr ⟨g, cap, cur, e, hg, ?_, rest⟩
    have : g < w.heap.size := by
      rcases Nat.lt_or_ge g w.heap.size with hlt | hge
      · exact hlt
      · rw [Array.getElem?_eq_none hge] at hh; cases hh
    rw [hb.block g this, hh]
theorem RowB.lt {w : World} {base g cap : Nat} {l : List Nat} (h : RowB w base g cap l) : base ≤ g ∧ g < w.heap.size := by
  rcases OwnB.shape h with ⟨e, _⟩ | ⟨g', cap', e, h1, h2, _⟩
  · simp at e
  · simp only [Value.slice.injEq, Option.some.injEq, Addr.mk.injEq, and_true, true_and] at e
    obtain ⟨rfl, rfl⟩ := e
    exact ⟨h1, h2⟩
theorem RowB.cell {w : World} {base g cap : Nat} {l : List Nat} (h : RowB w base g cap l) {j : Nat} (hj : j < l.length) : w.cell? ⟨g, j, none⟩ = some (.int .u8 ((l.getD j 0 : Nat) : Int)) := by
  rw [World.ownsRow.cellAt h j (by omega), map_dvb_get l j hj]
theorem RowB.free {w : World} {base g cap : Nat} {l : List Nat} (h : RowB w base g cap l) (j : Nat) : w.frozen? ⟨g, j, none⟩ = false := World.ownsRow.frozenAt h j
theorem RowB.set {w : World} {base g cap : Nat} {l : List Nat} (h : RowB w base g cap l) (j d : Nat) :
    RowB (w.setCell ⟨g, j, none⟩ (.int .u8 (d : Int))) base g cap (l.set j d) := by
  have h1 := (World.ownsRow.stored h j (.int .u8 (d : Int))).1
  unfold RowB OwnB
  rw [List.length_set, List.map_set]
  exact h1
theorem ownB_grown {w0 w w' : World} {base : Nat} {v : Value} {l : List Nat} (ho : OwnB w base v l) (hB : Below w0.heap.size w0 w) (hg : w.grownBy w' v.ownBlock) (hb : w0.heap.size ≤ base) : Below w0.heap.size w0 w' := by
  refine hB.grown hg hB.size fun k hk => ?_
  have := World.ownsRow.lt ho k hk
  omega

theorem own_beside {w w' : World} {base base' : Nat} {z v : Value} {l m : List Nat} (hz : Own w base' z l) (ho : OwnB w base v m) (ob : Obj) (hg : (w.alloc ob).grownBy w' v.ownBlock) : Own w' base' z l := by
  refine ⟨hz.1, World.ownsRow.kept (World.ownsRow.alloc hz.2 ob) hg ?_⟩
  rcases hz.2.2 with ⟨rfl, _⟩ | ⟨g, cap, cur, rfl, _, hh, _⟩
  · exact .inl rfl
  · refine .inr fun e => ?_
    rcases ho.2 with ⟨rfl, _⟩ | ⟨g', cap', cur', rfl, _, hh', _⟩
    · cases e
    · simp only [Value.ownBlock, Option.some.injEq] at e
      subst e
      rw [hh] at hh'
      injection hh' with h1
      injection h1 with _ h2
      exact absurd h2 (by decide)
/-- append of one byte: it has been laid in a block of its own. -/
theorem app_byte (w : World) {ops : Array Oper} {rest : List Oper} {o : Oper} {a : Act} {Q : Exit → Act → World → Prop} (hg : o.guard = none) (s x : Operand) (t : TypeId)
    (hop : o.op = .call { callee := .builtin .append, args := #[s, x], argTypes := #[t, t] })
    (ht : Tryz.prog.underlying t = some (.slice 5)) (base : Nat) (v : Value) (l : List Nat) (d : Nat) (hs : a.eval s = v) (hx : a.eval x = .slice (some ⟨w.heap.size, 0, none⟩) 1 1)
    (ho : OwnB w base v l) (hlen : l.length ≤ 100000000000) (hbase : base ≤ w.heap.size)
    (hK : ∀ v' w', OwnB w' base v' (l ++ [d]) → (∀ w0 : World, Below w0.heap.size w0 w → w0.heap.size ≤ base → Below w0.heap.size w0 w') → (∀ base' z m, Own w base' z m → Own w' base' z m) → wpList Tryz.prog ops Q rest (a.put o.dst v') w') :
    wpList Tryz.prog ops Q (o :: rest) a (w.alloc (.cells #[.int .u8 (d : Int)] 5)) := by
  obtain ⟨i0, hi, hz0, hz1, hz2⟩ := info_parts info_u8
  have ho2 : OwnB (w.alloc (.cells #[.int .u8 (d : Int)] 5)) base v l := World.ownsRow.alloc ho _
  refine wpList_append_own _ hg s x t hop base 5 i0 (.int .u8 0) 1 1 ht hi hz0 hz1 hz2 rfl (by omega) v l.length (l.map dvb) hs ho2 ⟨w.heap.size, 0, none⟩ 1 1 [.int .u8 (d : Int)] hx rfl (fun j u hu => ?_) (fun u hu => ?_) (by unfold maxLen; omega) (by omega) (by simp; omega) ?_
  · match j, hu with
    | 0, hu =>
      simp only [List.getElem?_cons_zero, Option.some.injEq] at hu
      subst hu
      rw [addr_plain, World.cell?_alloc_at _ _ _ _ (by simp)]
      rfl
    | j + 1, hu => simp at hu
  · simp only [List.mem_singleton] at hu
    subst hu; rfl
  · intro v' w' h1 h2 _
    refine hK v' w' ?_ (fun w0 hB hb => ?_) (fun base' z m hz => own_beside hz ho _ h2)
    · unfold OwnB
      rw [List.length_append, List.map_append]
      exact h1
    · exact ownB_grown ho2 (hB.alloc hB.size _) h2 hb

theorem rev_get {l : List Nat} {j : Nat} (h : j < l.length) : l.reverse.getD j 0 = l.getD (l.length - 1 - j) 0 := by
  rw [List.getD_eq_getElem?_getD, List.getD_eq_getElem?_getD, List.getElem?_reverse h]

/-- slices.Reverse turns the row round. -/
theorem reverse_row (w : World) (base g cap n : Nat) (l : List Nat) (h : RowB w base g cap l) (hn : l.length = n) (hl : l.length ≤ 100000000000) :
    Calls Tryz.prog 259 #[.slice (some ⟨g, 0, none⟩) n cap] w fun e w' => e = .returned (.tuple #[]) ∧ RowB w' base g cap l.reverse ∧ Below g w w' := by
  subst hn
  have HR := Lib.hid h
  clear h
  go_enter Tryz.func259, Tryz.ntmps259
  go_wp2
  go_loopw [2, 3] (fun i j wr => ∃ (k : Nat) (L : List Nat), k ≤ l.length ∧ i = .int .i64 k ∧ j = .int .i64 ((l.length : Int) - 1 - (k : Int)) ∧ Hid (RowB wr base g cap L) ∧ Hid (L.length = l.length) ∧ Below g w wr ∧
      Hid (∀ t, t < l.length → L.getD t 0 = if t < k ∨ l.length ≤ t + k then l.getD (l.length - 1 - t) 0 else l.getD t 0)) (fun i _ _ => l.length - (intOf i).toNat)
  case atStart => exact ⟨0, l, Nat.zero_le _, rfl, by go_num, HR, rfl, Below.refl _ _, fun t ht => by rw [if_neg (by omega)]⟩
  case round =>
    obtain ⟨k, L, hk, rfl, rfl, hR, hL, hB, hE⟩ := hrel
    by_cases hlt : k + k + 1 < l.length
    · have hc1 := hR.out.cell (j := k) (by rw [hL.out]; omega)
      have hc2 := hR.out.cell (j := l.length - 1 - k) (by rw [hL.out]; omega)
      have hf1 := hR.out.free k
      have hf2 := hR.out.free (l.length - 1 - k)
      have hx := hE.out k (by omega)
      have hy := hE.out (l.length - 1 - k) (by omega)
      rw [if_neg (by omega)] at hx hy
      rw [hx] at hc1
      rw [hy] at hc2
      have HN : Hid (∀ t, t < l.length → ((L.set k (l.getD (l.length - 1 - k) 0)).set (l.length - 1 - k) (l.getD k 0)).getD t 0 = if t < k + 1 ∨ l.length ≤ t + (k + 1) then l.getD (l.length - 1 - t) 0 else l.getD t 0) := by
        intro t ht
        by_cases h1 : t = l.length - 1 - k
        · subst h1
          rw [set_getD_eq _ _ _ (by rw [List.length_set, hL.out]; omega), if_pos (by omega)]
          congr 1
          omega
        · rw [set_getD_ne _ _ _ _ (Ne.symm h1)]
          by_cases h2 : t = k
          · subst h2
            rw [set_getD_eq _ _ _ (by rw [hL.out]; omega), if_pos (by omega)]
          · rw [set_getD_ne _ _ _ _ (Ne.symm h2), hE.out t ht]
            by_cases h3 : t < k ∨ l.length ≤ t + k
            · rw [if_pos h3, if_pos (by omega)]
            · rw [if_neg h3, if_neg (by omega)]
      generalize l.getD k 0 = x at *
      generalize l.getD (l.length - 1 - k) 0 = y at *
      have b0 : (0 : Int) ≤ (k : Int) := by omega
      have b1 : (k : Int) < (l.length : Int) := by omega
      have b2 : (0 : Int) ≤ (l.length : Int) - 1 - (k : Int) := by omega
      have b3 : (l.length : Int) - 1 - (k : Int) < (l.length : Int) := by omega
      have b4 : (k : Int) < (l.length : Int) - 1 - (k : Int) := by omega
      clear hx hy
      go_wp2
      go_region
      all_goals
        go_wp2
        go_roundw
        case rel => exact ⟨k + 1, (L.set k y).set (l.length - 1 - k) x, by omega, by go_num, by go_num, ((hR.out.set k y).set (l.length - 1 - k) x), by show _ = _; rw [List.length_set, List.length_set]; exact hL.out,
            (hB.drew.setCell (Nat.le_refl _) _).setCell (Nat.le_refl _) _, HN⟩
        case measure => simp [intOf]; omega
    · have hz : (l.length : Int) - 1 - (k : Int) ≤ (k : Int) := by omega
      have HN : Hid (L = l.reverse) := by
        refine List.ext_getElem (by rw [List.length_reverse]; exact hL.out) fun t h1 h2 => ?_
        have h3 := hE.out t (by rw [← hL.out]; exact h1)
        have h4 := rev_get (l := l) (j := t) (by rw [← hL.out]; exact h1)
        rw [List.getD_eq_getElem?_getD, List.getElem?_eq_getElem h1] at h3
        rw [List.getD_eq_getElem?_getD, List.getElem?_eq_getElem h2] at h4
        simp only [Option.getD_some] at h3 h4
        rw [h3, h4]
        split
        · rfl
        · rw [hL.out] at h1
          congr 1
          omega
      go_wp2
      go_end0
      exact ⟨rfl, by rw [← HN.out]; exact hR.out, hB⟩
end Go.Proofs.YtdlnoeegboapkaaGreatDoor

/- Decimal digits: plain laws. 'dl n': the decimal digits of n, the least significant one first; 'decStr n': what a number is written as. -/
namespace Go.Proofs.YtdlnoeegboapkaaGreatDoor

def dlF : Nat → Nat → List Nat
  | 0, _ => []
  | f + 1, n => if n = 0 then [] else (n % 10) :: dlF f (n / 10)
/-- The decimal digits of a number, the least significant one first; none for 0. -/
def dl (n : Nat) : List Nat := dlF n n
theorem dlF_fuel : ∀ f g n : Nat, n ≤ f → n ≤ g → dlF f n = dlF g n := by
  intro f
  induction f with
  | zero =>
    intro g n hf hg
    have : n = 0 := by omega
    subst this
    cases g <;> simp [dlF]
  | succ f ih =>
    intro g n hf hg
    cases g with
    | zero =>
      have : n = 0 := by omega
      subst this
      simp [dlF]
    | succ g =>
      unfold dlF
      split
      · rfl
      · rw [ih g (n / 10) (by omega) (by omega)]
theorem dl_zero : dl 0 = [] := rfl
theorem dl_pos {n : Nat} (h : n ≠ 0) : dl n = (n % 10) :: dl (n / 10) := by
  unfold dl
  cases n with
  | zero => exact absurd rfl h
  | succ n =>
    show (if n + 1 = 0 then [] else _) = _
    rw [if_neg h, dlF_fuel n ((n + 1) / 10) ((n + 1) / 10) (by omega) (Nat.le_refl _)]
theorem dl_ind {P : Nat → Prop} (h0 : P 0) (hs : ∀ n, n ≠ 0 → P (n / 10) → P n) : ∀ n, P n := by
  intro n
  induction n using Nat.strongRecOn with
  | _ n ih =>
    by_cases h : n = 0
    · subst h; exact h0
    · exact hs n h (ih _ (by omega))
theorem dl_eq_nil {n : Nat} : dl n = [] ↔ n = 0 := by
  constructor
  · intro h
    by_cases h0 : n = 0
    · exact h0
    · rw [dl_pos h0] at h; cases h
  · rintro rfl; rfl
theorem dl_lt : ∀ n, ∀ d ∈ dl n, d < 10 := by
  refine dl_ind (by simp [dl_zero]) fun n h ih d hd => ?_
  rw [dl_pos h] at hd
  rcases List.mem_cons.1 hd with rfl | hd
  · omega
  · exact ih d hd
/-- The number that decimal digits, the least significant one first, stand for. -/
def dval : List Nat → Nat
  | [] => 0
  | d :: l => d + 10 * dval l
theorem dval_dl : ∀ n, dval (dl n) = n := by
  refine dl_ind rfl fun n h ih => ?_
  rw [dl_pos h]
  show n % 10 + 10 * dval (dl (n / 10)) = n
  rw [ih]; omega
theorem dl_len {n k : Nat} (h : n < 10 ^ k) : (dl n).length ≤ k := by
  induction k generalizing n with
  | zero =>
    have : n = 0 := by simpa using h
    subst this; simp [dl_zero]
  | succ k ih =>
    by_cases h0 : n = 0
    · subst h0; simp [dl_zero]
    · rw [dl_pos h0, List.length_cons]
      have : n / 10 < 10 ^ k := by
        rw [Nat.pow_succ] at h
        exact Nat.div_lt_of_lt_mul (by rw [Nat.mul_comm]; exact h)
      have := ih this
      omega

/-- The bytes that a number is written as. -/
def decBytes (n : Nat) : List Nat := if n = 0 then [48] else ((dl n).map (fun d => 48 + d)).reverse
/-- The text of a number. -/
def decStr (n : Nat) : ByteArray := ⟨((decBytes n).map UInt8.ofNat).toArray⟩
theorem decBytes_zero : decBytes 0 = [48] := rfl
theorem decBytes_pos {n : Nat} (h : n ≠ 0) : decBytes n = ((dl n).map (fun d => 48 + d)).reverse := by unfold decBytes; rw [if_neg h]
end Go.Proofs.YtdlnoeegboapkaaGreatDoor

/- Contract of nat.Format: the decimal digits. -/
namespace Go.Proofs.YtdlnoeegboapkaaGreatDoor
open Go.RowKit
set_option maxRecDepth 100000
set_option maxHeartbeats 40000000
set_option synthInstance.maxSize 100000
set_option synthInstance.maxHeartbeats 1000000

/-- 10^k, as a plain name. -/
def p10 (k : Nat) : Nat := 10 ^ k
theorem p10_succ (k : Nat) : p10 (k + 1) = 10 * p10 k := by unfold p10; rw [Nat.pow_succ, Nat.mul_comm]
theorem p10_pos (k : Nat) : 0 < p10 k := Nat.pow_pos (by omega)
def asc (l : List Nat) : List Nat := l.map (fun d => 48 + d)
theorem asc_snoc (l : List Nat) (d : Nat) : asc (l ++ [d]) = asc l ++ [48 + d] := by simp [asc]
theorem asc_len (l : List Nat) : (asc l).length = l.length := by simp [asc]

/-- One decimal digit more: r is what is left of the chunk, A the number above it. -/
theorem dig_step {D : List Nat} {n r i A : Nat} (h : D ++ dl (r + p10 (i + 1) * A) = dl n) (h0 : ¬ (A = 0 ∧ r = 0)) :
    (D ++ [r % 10]) ++ dl (r / 10 + p10 i * A) = dl n := by
  have hp := p10_succ i
  have hpp := p10_pos i
  have e0 : r + p10 (i + 1) * A = r + 10 * (p10 i * A) := by rw [hp, Nat.mul_assoc]
  rw [e0] at h
  have hne : r + 10 * (p10 i * A) ≠ 0 := by
    intro e
    have : p10 i * A = 0 := by omega
    rcases Nat.mul_eq_zero.1 this with h1 | h1
    · omega
    · exact h0 ⟨h1, by omega⟩
  rw [dl_pos hne] at h
  have e1 : (r + 10 * (p10 i * A)) % 10 = r % 10 := by omega
  have e2 : (r + 10 * (p10 i * A)) / 10 = r / 10 + p10 i * A := by omega
  rw [e1, e2] at h
  rw [List.append_assoc]
  exact h
theorem dl_le_len {D : List Nat} {n T : Nat} (h : D ++ dl T = dl n) : D.length ≤ (dl n).length := by
  rw [← h, List.length_append]; omega

theorem val_zero_of_nf {n : Nat} (h : (nf n).length = 0) : n = 0 := nf_eq_nil.1 (List.eq_nil_of_length_eq_zero h)

/-- nat.Format returns the decimal digits. -/
theorem format_any (w : World) (u : Value) (la : List Nat) (hu : Rd w u la) (hla : la.length ≤ 1000000) (hdl : (dl (val la)).length ≤ 100000000) :
    Calls Tryz.prog 195 #[u] w fun e w' => e = .returned (.string (decStr (val la))) ∧ Below w.heap.size w w' := by
  have hle := nf_val_len hu.dig
  go_enter Tryz.func195, Tryz.ntmps195
  go_wp2_with fail
  refine (trim_any _ _ _ hu).mono ?_
  rintro e w1 ⟨u', rfl, hu', rfl⟩
  have hn := Lib.hid (val_nf (val la))
  have hlen : (nf (val la)).length ≤ 1000000 := by omega
  clear hle hla
  go_wp2_with fail
  go_loopw [0, 3] (fun a o wr => ∃ (c : Nat) (D : List Nat), Rd wr a (nf c) ∧ (nf c).length ≤ 1000000 ∧ OwnB wr w.heap.size o (asc D) ∧ Below w.heap.size w wr ∧ Hid (D ++ dl c = dl (val la))) (fun a _ wr => rdVal wr a)
  case atStart => exact ⟨val la, [], hu', hlen, OwnB.nil _ _, Below.refl _ _, rfl⟩
  case round =>
    obtain ⟨c, D, hA, hAl, hO, hB, hD⟩ := hrel
    obtain ⟨wo, hwo⟩ : ∃ wo : World, wo = wr := ⟨_, rfl⟩
    subst hwo
    have hA' := hA
    obtain ⟨a, cap, rfl, hcp, hcm, hda, hra⟩ := hA
    by_cases hc0 : c ≠ 0
    · have hp := nf_len_pos hc0
      go_wp2_with fail
      have hs := short_any _ _ _ 1000000000 hA' hAl (by omega) (by omega)
      rw [val_nf] at hs
      have hr9 : c % 1000000000 < p10 9 := Nat.mod_lt _ (by omega)
      have hD2 : D ++ dl (c % 1000000000 + p10 9 * (c / 1000000000)) = dl (val la) := by
        have : c % 1000000000 + p10 9 * (c / 1000000000) = c := Nat.mod_add_div c 1000000000
        rw [this]; exact hD.out
      have hMlt : c / 1000000000 < c := by omega
      have hzl : (nf (c / 1000000000)).length ≤ (nf c).length := nf_len_mono (by omega)
      unfold ShortPost at hs
      generalize c / 1000000000 = A at *
      generalize c % 1000000000 = r0 at *
      refine hs.mono ?_
      rintro e w2 ⟨z, rfl, hz, hb2⟩
      have HD2 := Lib.hid hD2
      have HR9 := Lib.hid hr9
      have hO2 := hO.keep hb2
      have hmes : rdVal wo (.slice a (nf c).length cap) = c := by rw [rdVal_eq hA', val_nf]
      have HM := Lib.hid hmes
      have HML := Lib.hid hMlt
      have hzr := hz.rd
      clear hD2 hr9 hD hO hmes hMlt hs
      have hzr2 := hz
      obtain ⟨az, capz, rfl, _, _, _, _⟩ := hzr
      go_wp2_with fail
      have hB2 := hB.trans (hb2.mono hB.size)
      have hB0s := hB2.size
      go_loopw [3, 4, 15] (fun o r i wr => ∃ (k rn : Nat) (D : List Nat), k ≤ 9 ∧ i = .int .i64 k ∧ r = .int .u32 rn ∧ rn < 4294967296 ∧ Hid (rn < p10 (9 - k)) ∧ OwnB wr w.heap.size o (asc D) ∧ Below w.heap.size w wr ∧ Own wr wo.heap.size (.slice az (nf A).length capz) (nf A) ∧ Hid (D ++ dl (rn + p10 (9 - k) * A) = dl (val la))) (fun _ _ i _ => 9 - (intOf i).toNat)
      case atStart => exact ⟨0, r0, D, by omega, rfl, rfl, by have := HR9.out; unfold p10 at this; omega, HR9, hO2, hB2, hzr2, HD2⟩
      case round =>
        obtain ⟨k, rn, D, hk, rfl, rfl, hrl, hrp, hO, hB, hBw, hD⟩ := hrel
        have hsz := hB.size
        have hDl : D.length ≤ 100000000 := Nat.le_trans (dl_le_len hD.out) hdl
        by_cases hk9 : k < 9
        · by_cases hA0 : A = 0 ∧ rn = 0
          · obtain ⟨rfl, rfl⟩ := hA0
            have hb0 : (((nf 0).length : Int) == 0) = true := rfl
            have HE : Hid (D ++ dl 0 = dl (val la)) := by
              have := hD.out
              rw [Nat.mul_zero, Nat.add_zero] at this
              exact this
            have hzk := hBw.rd
            have hmz : Hid (rdVal wr (.slice az (nf 0).length capz) = 0) := by
              show _ = _
              rw [rdVal_eq hzk, val_nf]
            clear hD hO2
            go_wp2
            go_roundw
            case rel => exact ⟨0, D, hzk, by show 0 ≤ 1000000; omega, hO, hB, HE⟩
            case measure =>
              have h1 := hmz.out
              have h2 := HM.out
              have h3 := HML.out
              show rdVal wr (.slice az (nf 0).length capz) < rdVal wo (.slice a (nf c).length cap)
              rw [h1, h2]; exact h3
          · have hst := fun h => @dig_step D (val la) rn (8 - k) A h hA0
            rw [show 8 - k + 1 = 9 - k by omega] at hst
            have HST := Lib.hid (hst hD.out)
            have hrp2 : Hid (rn / 10 < p10 (9 - (k + 1))) := by
              have h1 := hrp.out
              rw [show 9 - k = (8 - k) + 1 by omega, p10_succ] at h1
              show rn / 10 < p10 (9 - (k + 1))
              rw [show 9 - (k + 1) = 8 - k by omega]
              omega
            have hbb : (((nf A).length : Int) == 0) = false ∨ ((((nf A).length : Int) == 0) = true ∧ ((rn : Int) == 0) = false) := by
              by_cases h1 : (nf A).length = 0
              · right
                refine ⟨by rw [h1]; rfl, ?_⟩
                rw [beq_eq_false_iff_ne]
                intro h2
                exact hA0 ⟨val_zero_of_nf h1, by omega⟩
              · left
                rw [beq_eq_false_iff_ne]; omega
            have hdg : (48 : Int) + (rn : Int) % 10 = ((48 + rn % 10 : Nat) : Int) := by omega
            have hwb : (48 : Int) + (rn : Int) % 10 < 256 := by omega
            clear hst hA0 hdg
            rcases hbb with hb0 | ⟨hb0, hb1⟩
            all_goals
              go_wp2_with (at_builtin; go_loud (refine app_byte wr rfl (.tmp 24) (.tmp 29) 282 rfl Tryz.underlying282 w.heap.size _ (asc D) (48 + rn % 10) rfl rfl hO (by rw [asc_len]; omega) hsz ?_); intro v3 w3 o3 hB3 hZ3)
              go_roundw
              case rel =>
                have e8 : 9 - (k + 1) = 8 - k := by omega
                exact ⟨k + 1, rn / 10, D ++ [rn % 10], by omega, by go_num, by go_num, by omega, hrp2, by rw [asc_snoc]; exact o3, hB3 w hB (Nat.le_refl _), hZ3 _ _ _ hBw, by rw [e8]; exact HST⟩
              case measure => simp [intOf]; omega
        · obtain rfl : k = 9 := by omega
          have hr0 : rn = 0 := by
            have h1 : rn < 1 := hrp.out
            omega
          subst hr0
          have HE : Hid (D ++ dl A = dl (val la)) := by
            have := hD.out
            have e1 : p10 (9 - 9) = 1 := rfl
            rw [e1, Nat.one_mul, Nat.zero_add] at this
            exact this
          have hzk := hBw.rd
          have hmz : Hid (rdVal wr (.slice az (nf A).length capz) = A) := by
            show _ = _
            rw [rdVal_eq hzk, val_nf]
          clear hD hO2
          go_wp2
          go_roundw
          case rel => exact ⟨A, D, hzk, by omega, hO, hB, HE⟩
          case measure =>
            have h1 := hmz.out
            have h2 := HM.out
            have h3 := HML.out
            show rdVal wr (.slice az (nf A).length capz) < rdVal wo (.slice a (nf c).length cap)
            rw [h1, h2]; exact h3
    · have hc1 : c = 0 := by omega
      subst hc1
      have hl0 : (nf 0).length = 0 := rfl
      generalize (nf 0).length = n0 at *
      subst hl0
      have HE : Hid (D = dl (val la)) := by
        have := hD.out
        rw [dl_zero, List.append_nil] at this
        exact this
      by_cases hz0 : val la = 0
      · have hD0 : D = [] := by rw [HE.out, hz0]; rfl
        subst hD0
        have hs0 : u3 = .slice none 0 0 ∨ ∃ g cap, u3 = .slice (some ⟨g, 0, none⟩) 0 cap := by
          rcases hO.shape with ⟨h1, _⟩ | ⟨g, cap, h1, _⟩
          · exact .inl h1
          · exact .inr ⟨g, cap, h1⟩
        have HS := Lib.hid (show decStr (val la) = ⟨#[48]⟩ by rw [hz0]; rfl)
        clear hD HE hz0
        rcases hs0 with rfl | ⟨g, cap', rfl⟩
        all_goals
          go_wp2
          go_ret
          exact ⟨by rw [HS.out]; rfl, hB⟩
      · have hDl : D.length ≤ 100000000 := by rw [HE.out]; exact hdl
        have hD0 : 0 < D.length := by
          rcases Nat.eq_zero_or_pos D.length with h1 | h1
          · have : dl (val la) = [] := by rw [← HE.out]; exact List.eq_nil_of_length_eq_zero h1
            exact absurd (dl_eq_nil.1 this) hz0
          · exact h1
        rcases hO.shape with ⟨_, h1⟩ | ⟨g, cap', h1, hg1, hg2, hgc, hgm, hrow⟩
        · have := congrArg List.length h1
          rw [asc_len, List.length_nil] at this
          omega
        · have hbb : (((asc D).length : Int) == 0) = false := by rw [beq_eq_false_iff_ne, asc_len]; omega
          have HS : Hid (decStr (val la) = strOfNums ((asc D).reverse.map (fun d : Nat => (d : Int)))) := by
            show decStr (val la) = _
            unfold decStr strOfNums
            rw [decBytes_pos hz0, HE.out, List.map_map]
            rfl
          subst h1
          clear hD hz0
          go_wp2_with fail
          refine (reverse_row _ _ _ _ _ _ hrow rfl (by rw [asc_len]; omega)).mono ?_
          rintro e w3 ⟨rfl, hrow3, hB3⟩
          have hcv : ∀ dst, Tryz.prog.underlying dst = some .string → (convert 282 dst (.slice (some ⟨g, 0, none⟩) (asc D).length cap')).run Tryz.prog w3 = .ok (.string (strOfNums ((asc D).reverse.map (fun d : Nat => (d : Int))))) w3 :=
            run_convert_bytes_arg w3 282 5 Tryz.underlying282 Tryz.underlying5 g 0 _ cap' _ (by simp) (fun i hi => by
              rw [Nat.zero_add, hrow3.cell (by simpa using hi), List.getD_eq_getElem?_getD, List.getD_eq_getElem?_getD, List.getElem?_map]
              cases (asc D).reverse[i]? <;> rfl)
          have hcv9 := hcv 9 Tryz.underlying9
          clear hcv
          generalize strOfNums ((asc D).reverse.map (fun d : Nat => (d : Int))) = S at *
          go_wp2
          go_ret
          exact ⟨by rw [HS.out]; rfl, hB.trans (hB3.mono hg1)⟩
end Go.Proofs.YtdlnoeegboapkaaGreatDoor

/- Contract of nat.Add: the sum, in new memory. -/
namespace Go.Proofs.YtdlnoeegboapkaaGreatDoor
open Go.RowKit
set_option maxRecDepth 100000
set_option maxHeartbeats 40000000
set_option synthInstance.maxSize 100000
set_option synthInstance.maxHeartbeats 1000000

/-- The loop's arithmetic: digit k of a + b, c carried in. -/
theorem add_step {la lb L : List Nat} {c k : Nat} (hL : L.length = la.length + 1) (hz : ∀ j, k ≤ j → L.getD j 0 = 0) (hdL : Dig L) (hc : c ≤ 1) (hk : k < la.length) (hda : Dig la) (hdb : Dig lb)
    (h : val L + 4294967296 ^ k * c = val (la.take k) + val (lb.take k)) (y : Nat) (hy : (k < lb.length ∧ y = lb.getD k 0) ∨ (lb.length ≤ k ∧ y = 0)) :
    let t := c + la.getD k 0 + y
    Dig (L.set k (t % 4294967296)) ∧ t / 4294967296 ≤ 1 ∧ (∀ j, k + 1 ≤ j → (L.set k (t % 4294967296)).getD j 0 = 0) ∧
      val (L.set k (t % 4294967296)) + 4294967296 ^ (k + 1) * (t / 4294967296) = val (la.take (k + 1)) + val (lb.take (k + 1)) := by
  intro t
  have h1 := dig_get hda k
  have hy2 : y < 4294967296 := by
    rcases hy with ⟨_, rfl⟩ | ⟨_, rfl⟩
    · exact dig_get hdb k
    · omega
  have hb : val (lb.take (k + 1)) = val (lb.take k) + 4294967296 ^ k * y := by
    rcases hy with ⟨hy, rfl⟩ | ⟨hy, rfl⟩
    · exact val_take_snoc lb k hy
    · rw [List.take_of_length_le (by omega), List.take_of_length_le hy]; simp
  have h2 := carry_round (L := L) (j := k) (c := c) (s := la.getD k 0 + y) (t := t) (by omega) (by rw [hz k (Nat.le_refl _)]; omega)
  refine ⟨dig_set hdL k (by omega), by omega, fun j hj => ?_, ?_⟩
  · rw [set_getD_ne _ _ _ _ (by omega)]; exact hz j (by omega)
  · rw [h2, hb, val_take_snoc la k hk, Nat.mul_add, h]; omega
theorem add_end {la lb L : List Nat} {c : Nat} (hL : L.length = la.length + 1) (hz : ∀ j, la.length ≤ j → L.getD j 0 = 0) (hlen : lb.length ≤ la.length)
    (h : val L + 4294967296 ^ la.length * c = val (la.take la.length) + val (lb.take la.length)) : val (L.set la.length c) = val la + val lb := by
  rw [last_carry (by omega) (hz _ (Nat.le_refl _)), h, List.take_length, List.take_of_length_le hlen]

theorem add_both (w : World) (a b : Option Addr) (capa capb : Nat) (la lb : List Nat) (args : Array Value) (hlen : lb.length ≤ la.length)
    (hargs : args = #[.slice a la.length capa, .slice b lb.length capb] ∨ (args = #[.slice b lb.length capb, .slice a la.length capa] ∧ lb.length < la.length)) (hla : la.length ≤ 1000000)
    (hda : Dig la) (hdb : Dig lb) (hra : Cells w a la) (hrb : Cells w b lb) :
    Calls Tryz.prog 272 args w fun e w' => ∃ v, e = .returned v ∧ Own w' w.heap.size v (nf (val la + val lb)) ∧ Below w.heap.size w w' := by
  rcases hargs with rfl | ⟨rfl, hlt⟩
  all_goals
    go_enter Tryz.func272, Tryz.ntmps272
    go_wp2_with (at_make; go_loud (refine make_u32 _ rfl (.tmp 18) (.tmp 18) 25 rfl Tryz.underlying25 _ _ (la.length + 1) rfl rfl (by omega) (by omega) (by omega) ?_); intro w1 R0 B0)
    go_loopw [6, 22] (fun c i wr => ∃ (k cn : Nat) (L : List Nat), k ≤ la.length ∧ i = .int .i64 k ∧ c = .int .u64 cn ∧ cn ≤ 1 ∧ Row wr w.heap.size w.heap.size (la.length + 1) L ∧ Hid (L.length = la.length + 1) ∧ Below w.heap.size w wr ∧
        Hid (∀ j, k ≤ j → L.getD j 0 = 0) ∧ Hid (val L + 4294967296 ^ k * cn = val (la.take k) + val (lb.take k))) (fun _ i _ => la.length - (intOf i).toNat)
    case atStart => exact ⟨0, 0, _, Nat.zero_le _, rfl, rfl, by omega, R0, by show _ = _; simp, B0, fun j _ => getD_replicate _ _, by show _ = _; simp [val_replicate, val_nil]⟩
    case round =>
      obtain ⟨k, cn, L, hk, rfl, rfl, hcn, hR, hL, hB, hz, hv⟩ := hrel
      have hRc := hR.cap
      have hRl := hR.lt
      by_cases hlt : k < la.length
      · obtain ⟨ba, offa, rfl, cA⟩ := hra.at hB hlt
        have hst := @add_step la lb L cn k hL.out hz.out hR.dig hcn hlt hda hdb hv.out
        have cR := hR.cell (j := k) (by rw [hL.out]; omega)
        have fR := hR.free k
        have hx := dig_get hda k
        generalize la.getD k 0 = x at *
        generalize L.getD k 0 = z at *
        by_cases hltb : k < lb.length
        · obtain ⟨bb, offb, rfl, cB⟩ := hrb.at hB hltb
          have hst2 := hst (lb.getD k 0) (.inl ⟨hltb, rfl⟩)
          have hy := dig_get hdb k
          generalize lb.getD k 0 = y at *
          have e1 : ((cn : Int) + (x : Int) + (y : Int)) % 4294967296 = (((cn + x + y) % 4294967296 : Nat) : Int) := by omega
          have HST := Lib.hid hst2
          have HE := Lib.hid e1
          clear hst hst2 hra hrb e1
          go_wp2
          go_roundw
          case rel =>
            obtain ⟨s1, s2, s3, s4⟩ := HST.out
            rw [HE.out]
            exact ⟨k + 1, (cn + x + y) / 4294967296, L.set k ((cn + x + y) % 4294967296), by omega, rfl, by go_num, s2, hR.set k (by omega), by show _ = _; rw [List.length_set]; exact hL.out, hB.setCell (Nat.le_refl _) _, s3, s4⟩
          case measure => simp [intOf]; omega
        · have hst2 := hst 0 (.inr ⟨by omega, rfl⟩)
          have e1 : ((cn : Int) + (x : Int)) % 4294967296 = (((cn + x + 0) % 4294967296 : Nat) : Int) := by omega
          have HST := Lib.hid hst2
          have HE := Lib.hid e1
          clear hst hst2 hra hrb e1
          go_wp2
          go_roundw
          case rel =>
            obtain ⟨s1, s2, s3, s4⟩ := HST.out
            rw [HE.out]
            exact ⟨k + 1, (cn + x + 0) / 4294967296, L.set k ((cn + x + 0) % 4294967296), by omega, rfl, by go_num, s2, hR.set k (by omega), by show _ = _; rw [List.length_set]; exact hL.out, hB.setCell (Nat.le_refl _) _, s3, s4⟩
          case measure => simp [intOf]; omega
      · obtain rfl : k = la.length := by omega
        have hend := add_end hL.out hz.out hlen hv.out
        have cR := hR.cell (j := la.length) (by rw [hL.out]; omega)
        have fR := hR.free la.length
        generalize L.getD la.length 0 = z at *
        have HV := Lib.hid hend
        have HR2 := hR.set la.length (d := cn) (by omega)
        clear hend hra hrb
        go_wp2_with (go_at_call 191; refine (trim_row _ _ _ _ _ _ HR2 (by rw [List.length_set]; exact hL.out)).mono ?_; rintro e w2 ⟨v, rfl, ho, rfl⟩)
        go_ret
        rw [HV.out] at ho
        exact ⟨v, rfl, ho, hB.setCell (Nat.le_refl _) _⟩

theorem add_raw (w : World) (a b : Option Addr) (capa capb : Nat) (la lb : List Nat) (hla : la.length ≤ 1000000) (hlb : lb.length ≤ 1000000)
    (hda : Dig la) (hdb : Dig lb) (hra : Cells w a la) (hrb : Cells w b lb) :
    Calls Tryz.prog 272 #[.slice a la.length capa, .slice b lb.length capb] w fun e w' => ∃ v, e = .returned v ∧ Own w' w.heap.size v (nf (val la + val lb)) ∧ Below w.heap.size w w' := by
  by_cases hlt : la.length < lb.length
  · rw [Nat.add_comm]
    exact add_both w b a capb capa lb la _ (by omega) (.inr ⟨rfl, hlt⟩) hlb hdb hda hrb hra
  · exact add_both w a b capa capb la lb _ (by omega) (.inl rfl) hla hda hdb hra hrb

theorem add_any (w : World) (u v : Value) (la lb : List Nat) (hu : Rd w u la) (hv : Rd w v lb) (hla : la.length ≤ 1000000) (hlb : lb.length ≤ 1000000) :
    Calls Tryz.prog 272 #[u, v] w fun e w' => ∃ z, e = .returned z ∧ Own w' w.heap.size z (nf (val la + val lb)) ∧ Below w.heap.size w w' := by
  obtain ⟨a, capa, rfl, _, _, hda, hra⟩ := hu
  obtain ⟨b, capb, rfl, _, _, hdb, hrb⟩ := hv
  exact add_raw w a b capa capb la lb hla hlb hda hdb hra hrb

end Go.Proofs.YtdlnoeegboapkaaGreatDoor

/- Contract of nat.DivMod, given that of nat.long; and the laws' helper 'known' of layer 1. -/
namespace Go.Proofs.YtdlnoeegboapkaaGreatDoor
open Go.RowKit
set_option maxRecDepth 100000
set_option maxHeartbeats 40000000
set_option synthInstance.maxSize 100000
set_option synthInstance.maxHeartbeats 1000000

/-- What long returns: quotient and remainder of a number by one of at least two digits that is not greater. -/
def LongSaid : Prop := ∀ (w : World) (a b : Option Addr) (capa capb m n : Nat), 2 ≤ (nf n).length → n ≤ m → (nf m).length ≤ 1000000 → (nf m).length ≤ capa → (nf n).length ≤ capb → capa ≤ 9223372036854775807 → capb ≤ 9223372036854775807 → Cells w a (nf m) → Cells w b (nf n) →
  Calls Tryz.prog 282 #[.slice a (nf m).length capa, .slice b (nf n).length capb] w fun e w' => ∃ q r, e = .returned (.tuple #[q, r]) ∧ Own w' w.heap.size q (nf (m / n)) ∧ Own w' w.heap.size r (nf (m % n)) ∧ Below w.heap.size w w'

/-- What DivMod returns. -/
def DivPost (w : World) (m n : Nat) (e : Ending) (w' : World) : Prop :=
  ∃ q r, e = .returned (.tuple #[q, r, .bool (decide (n ≠ 0))]) ∧ Own w' w.heap.size q (nf (m / n)) ∧ Own w' w.heap.size r (nf (if n = 0 then 0 else m % n)) ∧ Below w.heap.size w w'

theorem divmod_any (w : World) (u v : Value) (la lb : List Nat) (hu : Rd w u la) (hv : Rd w v lb) (hla : la.length ≤ 1000000) (hlong : val lb < 4294967296 ∨ LongSaid) :
    Calls Tryz.prog 250 #[u, v] w (DivPost w (val la) (val lb)) := by
  have hle1 := nf_val_len hu.dig
  go_enter Tryz.func250, Tryz.ntmps250
  go_wp2_with fail
  refine (trim_any _ _ _ hu).mono ?_
  rintro e w1 ⟨u', rfl, hu', rfl⟩
  go_wp2_with fail
  refine (trim_any _ _ _ hv).mono ?_
  rintro e w1 ⟨v', rfl, hv', rfl⟩
  have hxl : (nf (val la)).length ≤ 1000000 := by omega
  generalize val la = m at *
  generalize val lb = n at *
  have hu2 := hu'
  have hv2 := hv'
  obtain ⟨b, capb, rfl, hcb, hcbm, hdb, hrb⟩ := hv'
  clear hu hv hle1 hla
  by_cases hn : n = 0
  · subst hn
    have hl0 : (nf 0).length = 0 := rfl
    generalize (nf 0).length = k at *
    subst hl0
    go_wp2
    go_ret3
    exact ⟨_, _, rfl, by rw [Nat.div_zero]; exact Own.nil _ _, Own.nil _ _, Below.refl _ _⟩
  · have hp := nf_len_pos hn
    have hb0 : (((nf n).length : Int) == 0) = false := by rw [beq_eq_false_iff_ne]; omega
    have HD := Lib.hid (decide_eq_true (show n ≠ 0 from hn))
    have HI := Lib.hid (show (if n = 0 then 0 else m % n) = m % n from if_neg hn)
    go_wp2_with fail
    refine (natCmp_any _ _ _ _ _ hu2 hv2).mono ?_
    rintro e w2 ⟨rfl, hb2⟩
    rw [val_nf, val_nf]
    by_cases hlt : m < n
    · rw [cmpN_lt hlt]
      have HQ := Lib.hid (Nat.div_eq_of_lt hlt)
      have HR := Lib.hid (Nat.mod_eq_of_lt hlt)
      clear hlt hn
      go_wp2_with fail
      refine (clone_any _ _ _ (hu2.keep hb2) hxl).mono ?_
      rintro e w3 ⟨z, rfl, hz, hb3⟩
      go_wp2
      go_ret3
      exact ⟨_, _, by rw [HD.out]; rfl, by rw [HQ.out]; exact Own.nil _ _, by rw [HI.out, HR.out]; exact hz.mono hb2.size, hb2.trans (hb3.mono hb2.size)⟩
    · have hge : 0 ≤ cmpN m n := by unfold cmpN; rw [if_neg hlt]; split <;> omega
      generalize cmpN m n = c at *
      by_cases h1 : (nf n).length = 1
      · obtain ⟨ba, off, rfl, hcell⟩ := hrb hp
        have c0 := (hb2.cell (Cells.below hrb hp _ _ rfl)).trans (hcell 0 hp)
        have hval := val_nf n
        have hd0 := dig_get hdb 0
        have hn0 : (nf n).getD 0 0 = n := by
          match hl : nf n, h1, hval with
          | [d], _, hval => rw [val_cons, val_nil] at hval; simpa using hval
        rw [hn0] at c0 hd0
        rw [Nat.add_zero] at c0
        have hs := short_any w2 _ _ n (hu2.keep hb2) hxl (by omega) hd0
        rw [val_nf] at hs
        have hml : m % n < n := Nat.mod_lt _ (by omega)
        have hf := fun w => fromUint_any w (m % n) (by omega)
        unfold ShortPost at hs
        have hb1 : (((nf n).length : Int) == 1) = true := by rw [h1]; rfl
        generalize hqq : m / n = q0 at hs
        generalize hrr : m % n = r0 at hs hml hf
        have HQQ := Lib.hid hqq
        have HRR := Lib.hid hrr
        clear hqq hrr
        clear hval hn0 hcell hlong h1
        go_wp2_with fail
        refine hs.mono ?_
        rintro e w3 ⟨z, rfl, hz, hb3⟩
        have hb23 := hb2.trans (hb3.mono hb2.size)
        have HS := Lib.hid hs
        clear hs
        go_wp2_with fail
        refine (hf _).mono ?_
        rintro e w4 ⟨y, rfl, hy, hb4⟩
        go_wp2
        go_ret3
        exact ⟨_, _, by rw [HD.out]; rfl, by rw [HQQ.out]; exact (hz.mono hb2.size).keep hb4, by rw [HI.out, HRR.out]; exact hy.mono (Nat.le_trans hb2.size hb3.size), hb23.trans (hb4.mono hb23.size)⟩
      · have hb1 : (((nf n).length : Int) == 1) = false := by rw [beq_eq_false_iff_ne]; omega
        have hL : LongSaid := by
          rcases hlong with h | h
          · exfalso
            have := nf_len_le (n := n) (k := 1) (by simpa using h)
            omega
          · exact h
        have hu3 := hu2.keep hb2
        have hrb3 := hrb.keep hb2
        obtain ⟨a, capa, rfl, hca, hcam, hda, hra⟩ := hu3
        have hs := hL w2 a b capa capb m n (by omega) (by omega) hxl hca hcb hcam hcbm hra hrb3
        have HS := Lib.hid hs
        have HL := Lib.hid hL
        clear hs hL hlong
        go_wp2_with fail
        refine HS.out.mono ?_
        rintro e w3 ⟨q, r, rfl, hq, hr, hb3⟩
        go_wp2
        go_ret3
        exact ⟨_, _, by rw [HD.out]; rfl, hq.mono hb2.size, by rw [HI.out]; exact hr.mono hb2.size, hb2.trans (hb3.mono hb2.size)⟩

/-! ### literals -/
theorem rd_lit {w : World} {b : Nat} (hb : w.heap.size = b) (l : List Nat) (hd : Dig l) (hl : l.length ≤ 1000000) (cs : Array Value) (hcs : cs = (l.map dv).toArray) (n : Nat) (hn : n = l.length) :
    Rd (w.alloc (.cells cs 106)) (.slice (some ⟨b, 0, none⟩) n n) l := by
  subst hn; subst hb
  exact (own_lit w l hd hl cs hcs).rd
theorem blw_alloc {w w' : World} (h : Below w.heap.size w w') (o : Obj) : Below w.heap.size w (w'.alloc o) := h.alloc h.size o
theorem blw_one (w : World) (o : Obj) : Below w.heap.size w (w.alloc o) := (Below.refl _ _).alloc (Nat.le_refl _) o
theorem blw_trans {a b c : World} (h : Below a.heap.size a b) (k : Below b.heap.size b c) : Below a.heap.size a c := h.trans (k.mono h.size)
theorem dig1 {a : Nat} (ha : a < 4294967296) : Dig [a] := dig_cons ha dig_nil
theorem nf_one {a : Nat} (ha : a < 4294967296) (h0 : a ≠ 0) : nf a = [a] := by
  rw [nf_pos h0, Nat.mod_eq_of_lt ha, Nat.div_eq_of_lt ha, nf_zero]
theorem nf_B : nf 4294967296 = [0, 1] := by
  rw [nf_pos (by omega), show 4294967296 % 4294967296 = 0 from rfl, show 4294967296 / 4294967296 = 1 from rfl, nf_one (by omega) (by omega)]
theorem dec_B : decStr 4294967296 = ⟨#[52, 50, 57, 52, 57, 54, 55, 50, 57, 54]⟩ := by
  have h : dl 4294967296 = [6, 9, 2, 7, 6, 9, 4, 9, 2, 4] := by
    simp [dl_pos, dl_zero]
  unfold decStr
  rw [decBytes_pos (by omega), h]
  rfl
theorem dl_B : (dl 4294967296).length ≤ 100000000 := by
  have h : dl 4294967296 = [6, 9, 2, 7, 6, 9, 4, 9, 2, 4] := by
    simp [dl_pos, dl_zero]
  rw [h]; decide

end Go.Proofs.YtdlnoeegboapkaaGreatDoor
