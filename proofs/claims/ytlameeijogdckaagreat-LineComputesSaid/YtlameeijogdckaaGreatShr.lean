/-
  Contracts of nat.Shr and num.Right: division by powers of two.
-/
import Derived.Test.YtlameeijogdckaaGreatShift
namespace Go.Proofs.YtlameeijogdckaaGreat
open Go.RowKit

theorem shr_digit {x y S S2 s : Nat} (hs : s < 32) (hx : x < 4294967296) (hS : S = y + 4294967296 * S2) :
    (x + 4294967296 * S) / p2 s = (x + 4294967296 * y) / p2 s % 4294967296 + 4294967296 * (S / p2 s) := by
  have hd := p2_dvd (s := s) (by omega)
  have hP := p2_pos s
  have hP' := p2_pos (32 - s)
  generalize p2 (32 - s) = Q at *
  generalize p2 s = P at *
  have e1 : ∀ t, (x + 4294967296 * t) / P = x / P + Q * t := fun t => by
    rw [← hd, Nat.mul_assoc, Nat.add_mul_div_left _ _ hP]
  rw [e1, e1]
  have hxq : x / P < Q := by
    apply Nat.div_lt_of_lt_mul
    rw [hd]; exact hx
  have e2 : Q * S = 4294967296 * (S / P) + Q * (S % P) := by
    conv => lhs; rw [← Nat.div_add_mod S P]
    rw [Nat.mul_add, ← Nat.mul_assoc, Nat.mul_comm Q P, hd]
  have e3 : Q * S = Q * y + 4294967296 * (Q * S2) := by
    rw [hS, Nat.mul_add, ← Nat.mul_assoc, Nat.mul_comm Q 4294967296, Nat.mul_assoc]
  have hu : S % P < P := Nat.mod_lt _ hP
  have hlt : Q * (S % P) + Q ≤ 4294967296 := by
    have : Q * (S % P + 1) ≤ Q * P := Nat.mul_le_mul_left _ hu
    rw [Nat.mul_add, Nat.mul_comm Q P, hd] at this
    omega
  have e4 : (x / P + Q * y) % 4294967296 = x / P + Q * (S % P) := by
    have h1 : x / P + Q * y + 4294967296 * (Q * S2) = x / P + Q * (S % P) + 4294967296 * (S / P) := by omega
    have h2 : (x / P + Q * y + 4294967296 * (Q * S2)) % 4294967296 = (x / P + Q * (S % P) + 4294967296 * (S / P)) % 4294967296 := by rw [h1]
    rw [Nat.add_mul_mod_self_left, Nat.add_mul_mod_self_left] at h2
    rw [h2, Nat.mod_eq_of_lt (by omega)]
  rw [e4, e2]
  omega
theorem shr_step {xs L : List Nat} {V q i s x y : Nat} (hs : s < 32) (hqi : q + i < xs.length) (hL : i < L.length) (hdx : Dig xs) (hdL : Dig L) (hx : xs.getD (q + i) 0 = x)
    (hy : (q + i + 1 < xs.length ∧ xs.getD (q + i + 1) 0 = y) ∨ (xs.length ≤ q + i + 1 ∧ y = 0)) (hz : ∀ j, i ≤ j → L.getD j 0 = 0)
    (h : val L + 4294967296 ^ i * (val (xs.drop (q + i)) / p2 s) = V) :
    Dig (L.set i ((x + 4294967296 * y) / p2 s % 4294967296)) ∧ (∀ j, i + 1 ≤ j → (L.set i ((x + 4294967296 * y) / p2 s % 4294967296)).getD j 0 = 0) ∧
      val (L.set i ((x + 4294967296 * y) / p2 s % 4294967296)) + 4294967296 ^ (i + 1) * (val (xs.drop (q + (i + 1))) / p2 s) = V := by
  have hx2 := dig_get hdx (q + i)
  rw [hx] at hx2
  have h1 := val_drop_cons xs (q + i) hqi
  rw [hx] at h1
  have h2 : ∃ S2, val (xs.drop (q + i + 1)) = y + 4294967296 * S2 := by
    rcases hy with ⟨hy1, hy2⟩ | ⟨hy1, rfl⟩
    · exact ⟨_, by rw [val_drop_cons xs (q + i + 1) hy1, hy2]⟩
    · exact ⟨0, by rw [List.drop_eq_nil_of_le hy1, val_nil]⟩
  obtain ⟨S2, h2⟩ := h2
  have h3 := shr_digit (x := x) (s := s) hs hx2 h2
  refine ⟨dig_set hdL _ (Nat.mod_lt _ (by omega)), fun j hj => by rw [set_getD_ne _ _ _ _ (by omega)]; exact hz j (by omega), ?_⟩
  rw [last_carry hL (hz i (Nat.le_refl _)), ← h, h1, h3, Nat.mul_add, Nat.pow_succ, Nat.mul_assoc, ← Nat.add_assoc q i 1]
  omega
theorem shr_start {xs : List Nat} (hd : Dig xs) (k : Nat) : val (xs.drop (k / 32)) / p2 (k % 32) = val xs / 2 ^ k := by
  by_cases h : k / 32 ≤ xs.length
  · have h1 := val_take_drop xs (k / 32) h
    have h2 := val_lt (xs.take (k / 32)) (dig_take hd _)
    rw [List.length_take, Nat.min_eq_left h] at h2
    rw [← pow_split k, ← Nat.div_div_eq_div_mul, h1, Nat.add_mul_div_left _ _ (Nat.pow_pos (by omega)), Nat.div_eq_of_lt h2, Nat.zero_add]
  · rw [List.drop_eq_nil_of_le (by omega), val_nil, Nat.zero_div, Nat.div_eq_of_lt]
    have h1 := val_lt xs hd
    rw [← pow_split k]
    have h2 : 4294967296 ^ xs.length ≤ 4294967296 ^ (k / 32) := Nat.pow_le_pow_right (by omega) (by omega)
    have h3 : 4294967296 ^ (k / 32) * 1 ≤ 4294967296 ^ (k / 32) * p2 (k % 32) := Nat.mul_le_mul_left _ (p2_pos _)
    omega
theorem shr_zero {xs : List Nat} (hd : Dig xs) {k : Nat} (h : xs.length ≤ k / 32) : val xs / 2 ^ k = 0 := by
  rw [← shr_start hd, List.drop_eq_nil_of_le h, val_nil, Nat.zero_div]
theorem shr_end {xs L : List Nat} {i k : Nat} (hd : Dig xs) (hi : k / 32 + i = xs.length) (h : val L + 4294967296 ^ i * (val (xs.drop (k / 32 + i)) / p2 (k % 32)) = val (xs.drop (k / 32)) / p2 (k % 32)) : val L = val xs / 2 ^ k := by
  rw [hi, List.drop_eq_nil_of_le (Nat.le_refl _), val_nil, Nat.zero_div, Nat.mul_zero, Nat.add_zero, shr_start hd] at h
  exact h
theorem div_int {x y P : Nat} : ((x : Int) + 4294967296 * (y : Int)) / (P : Int) % 4294967296 = (((x + 4294967296 * y) / P % 4294967296 : Nat) : Int) := by
  rw [Int.natCast_emod, Int.natCast_ediv, Int.natCast_add, Int.natCast_mul]; rfl
theorem div_int0 {x P : Nat} : (x : Int) / (P : Int) % 4294967296 = (((x + 4294967296 * 0) / P % 4294967296 : Nat) : Int) := by
  rw [Nat.mul_zero, Nat.add_zero, Int.natCast_emod, Int.natCast_ediv]; rfl

set_option maxRecDepth 100000 in
set_option maxHeartbeats 2000000 in
/-- nat.Shr returns a / 2^k. -/
theorem shr_any (w : World) (u : Value) (la : List Nat) (k : Nat) (hu : Rd w u la) (hla : la.length ≤ 1000000) (hk : k < 18446744073709551616) :
    Calls Tryz.prog 241 #[u, .int .u64 (k : Int)] w fun e w' => ∃ z, e = .returned z ∧ Own w' w.heap.size z (nf (val la / 2 ^ k)) ∧ Below w.heap.size w w' := by
  have hle := nf_val_len hu.dig
  go_enter Tryz.func241, Tryz.ntmps241
  go_wp2_with fail
  refine (trim_any _ _ _ hu).mono ?_
  rintro e w1 ⟨u', rfl, hu', rfl⟩
  have hva := Lib.hid (val_nf (val la))
  generalize nf (val la) = xs at *
  obtain ⟨a, capa, rfl, _, _, hda, hra⟩ := hu'
  have hx1 : xs.length ≤ 1000000 := by omega
  clear hu hle hla
  by_cases hn : xs.length ≤ k / 32
  · have HN := Lib.hid (shr_zero hda hn)
    have hni : (xs.length : Int) ≤ (k : Int) / 32 := by omega
    go_wp2
    go_ret
    exact ⟨_, rfl, by rw [← hva.out, HN.out]; exact Own.nil _ _, Below.refl _ _⟩
  · have hk2 : k / 32 < xs.length := by omega
    have hk3 : (k : Int) / 32 < (xs.length : Int) := by omega
    have hs : k % 32 < 32 := Nat.mod_lt _ (by omega)
    clear hn
    go_wp2_with (at_make; go_loud (refine make_u32 _ rfl (.tmp 26) (.tmp 26) 23 rfl Tryz.underlying23 _ _ (xs.length - k / 32) rfl rfl (by omega) (by omega) (by omega) ?_); intro w1 R0 B0)
    go_loopw [30] (fun i wr => ∃ (j : Nat) (L : List Nat), j ≤ xs.length - k / 32 ∧ i = .int .i64 j ∧ Row wr w.heap.size w.heap.size (xs.length - k / 32) L ∧ Hid (L.length = xs.length - k / 32) ∧ Below w.heap.size w wr ∧
        Hid (∀ i, j ≤ i → L.getD i 0 = 0) ∧ Hid (val L + 4294967296 ^ j * (val (xs.drop (k / 32 + j)) / p2 (k % 32)) = val (xs.drop (k / 32)) / p2 (k % 32))) (fun i _ => (xs.length - k / 32) - (intOf i).toNat)
    case atStart => exact ⟨0, _, Nat.zero_le _, rfl, R0, by show _ = _; simp, B0, fun j _ => getD_replicate _ _, by show _ = _; simp [val_replicate]⟩
    case round =>
      obtain ⟨j, L, hj, rfl, hR, hL, hB, hz, hv⟩ := hrel
      have hRl := hR.lt
      have hRc := hR.cap
      by_cases hlt : j < xs.length - k / 32
      · obtain ⟨ba, offa, rfl, cA⟩ := hra.at hB (k := k / 32 + j) (by omega)
        have hx := dig_get hda (k / 32 + j)
        have hst := fun x y hx => @shr_step xs L (val (xs.drop (k / 32)) / p2 (k % 32)) (k / 32) j (k % 32) x y hs (by omega) (by rw [hL.out]; exact hlt) hda hR.dig hx
        have hst := fun y hy => hst (xs.getD (k / 32 + j) 0) y rfl hy hz.out hv.out
        generalize xs.getD (k / 32 + j) 0 = x at *
        have cR := hR.cell (j := j) (by rw [hL.out]; omega)
        have fR := hR.free j
        generalize L.getD j 0 = z at *
        have hpi := pow_int k
        have hP := p2_pos (k % 32)
        have hs1 : (k : Int) % 32 < 32 := by omega
        have hs0 : 0 ≤ (k : Int) % 32 := by omega
        have e1 : k / 32 + j = j + k / 32 := by omega
        rw [e1] at cA
        by_cases hlt2 : j + k / 32 + 1 < xs.length
        · obtain ⟨ba', offa', e2, cA2⟩ := hra.at hB hlt2
          have e3 := Option.some.inj e2
          injection e3 with e4 e5
          subst e4; subst e5
          have hy := dig_get hda (j + k / 32 + 1)
          have hst := hst (xs.getD (j + k / 32 + 1) 0) (.inl ⟨by omega, by rw [e1]⟩)
          generalize xs.getD (j + k / 32 + 1) 0 = y at *
          have hor := or_high x y hx hy
          have HST := Lib.hid hst
          have hm : (j : Int) + (k : Int) / 32 + 1 < (xs.length : Int) := by omega
          generalize p2 (k % 32) = P at *
          clear hra hst e1 e2
          go_wp2
          go_roundw
          case rel =>
            obtain ⟨s1, s2, s3⟩ := HST.out
            rw [div_int]
            exact ⟨j + 1, _, by omega, by go_num, hR.set j (Nat.mod_lt _ (by omega)), by show _ = _; rw [List.length_set]; exact hL.out, hB.setCell (Nat.le_refl _) _, s2, s3⟩
          case measure => simp [intOf]; omega
        · have hst := hst 0 (.inr ⟨by omega, rfl⟩)
          have HST := Lib.hid hst
          have hm : (xs.length : Int) ≤ (j : Int) + (k : Int) / 32 + 1 := by omega
          generalize p2 (k % 32) = P at *
          clear hra hst e1
          go_wp2
          go_roundw
          case rel =>
            obtain ⟨s1, s2, s3⟩ := HST.out
            rw [div_int0]
            exact ⟨j + 1, _, by omega, by go_num, hR.set j (Nat.mod_lt _ (by omega)), by show _ = _; rw [List.length_set]; exact hL.out, hB.setCell (Nat.le_refl _) _, s2, s3⟩
          case measure => simp [intOf]; omega
      · have hv2 := shr_end hda (i := j) (by omega) hv.out
        rw [hva.out] at hv2
        have HV := Lib.hid hv2
        clear hv2 hra
        go_wp2_with (go_at_call 227; refine (trim_row _ _ _ _ _ _ hR hL.out).mono ?_; rintro e w2 ⟨v, rfl, ho, rfl⟩)
        go_ret
        rw [HV.out] at ho
        exact ⟨v, rfl, ho, hB⟩
set_option maxRecDepth 100000 in
set_option maxHeartbeats 2000000 in
/-- num.Right returns a / 2^k. -/
theorem right_any (w : World) (u : Value) (m : Nat) (k : Nat) (hu : Rd w u (nf m)) (hla : (nf m).length ≤ 1000000) (hk : k < 9223372036854775808) :
    Calls Tryz.prog 217 #[u, .int .i64 (k : Int)] w fun e w' => ∃ z, e = .returned z ∧ Own w' w.heap.size z (nf (m / 2 ^ k)) ∧ Below w.heap.size w w' := by
  have hva := Lib.hid (val_nf m)
  generalize nf m = xs at *
  obtain ⟨a, capa, rfl, hcap, hcm, hda, hra⟩ := hu
  go_enter Tryz.func217, Tryz.ntmps217
  by_cases hn : xs.length ≤ k / 32
  · have HN := Lib.hid (shr_zero hda hn)
    have hni : (xs.length : Int) ≤ (k : Int) / 32 := by omega
    go_wp2
    go_ret
    exact ⟨_, rfl, by rw [← hva.out, HN.out]; exact Own.nil _ _, Below.refl _ _⟩
  · have hk2 : k / 32 < xs.length := by omega
    have hk3 : (k : Int) / 32 < (xs.length : Int) := by omega
    have hs : k % 32 < 32 := Nat.mod_lt _ (by omega)
    have hne : ¬ capa = k / 32 := by omega
    clear hn
    obtain ⟨ba, offa, rfl, hca⟩ := hra (by omega)
    have hra : Cells w (some ⟨ba, offa, none⟩) xs := fun _ => ⟨ba, offa, rfl, hca⟩
    clear hca
    go_wp2_with (at_make; go_loud (refine make_u32 _ rfl (.tmp 24) (.tmp 24) 22 rfl Tryz.underlying22 _ _ (xs.length - k / 32) rfl rfl (by omega) (by omega) (by omega) ?_); intro w1 R0 B0)
    go_loopw [28] (fun i wr => ∃ (j : Nat) (L : List Nat), j ≤ xs.length - k / 32 ∧ i = .int .i64 j ∧ Row wr w.heap.size w.heap.size (xs.length - k / 32) L ∧ Hid (L.length = xs.length - k / 32) ∧ Below w.heap.size w wr ∧
        Hid (∀ i, j ≤ i → L.getD i 0 = 0) ∧ Hid (val L + 4294967296 ^ j * (val (xs.drop (k / 32 + j)) / p2 (k % 32)) = val (xs.drop (k / 32)) / p2 (k % 32))) (fun i _ => (xs.length - k / 32) - (intOf i).toNat)
    case atStart => exact ⟨0, _, Nat.zero_le _, rfl, R0, by show _ = _; simp, B0, fun j _ => getD_replicate _ _, by show _ = _; simp [val_replicate]⟩
    case round =>
      obtain ⟨j, L, hj, rfl, hR, hL, hB, hz, hv⟩ := hrel
      have hRl := hR.lt
      have hRc := hR.cap
      by_cases hlt : j < xs.length - k / 32
      · obtain ⟨ba', offa', e0, cA⟩ := hra.at hB (k := k / 32 + j) (by omega)
        have e0 := Option.some.inj e0
        injection e0 with e4 e5
        subst e4; subst e5
        have hx := dig_get hda (k / 32 + j)
        have hst := fun x y hx => @shr_step xs L (val (xs.drop (k / 32)) / p2 (k % 32)) (k / 32) j (k % 32) x y hs (by omega) (by rw [hL.out]; exact hlt) hda hR.dig hx
        have hst := fun y hy => hst (xs.getD (k / 32 + j) 0) y rfl hy hz.out hv.out
        generalize xs.getD (k / 32 + j) 0 = x at *
        have cR := hR.cell (j := j) (by rw [hL.out]; omega)
        have fR := hR.free j
        generalize L.getD j 0 = z at *
        have hpi := pow_int k
        have hP := p2_pos (k % 32)
        have hs1 : (k : Int) % 32 < 32 := by omega
        have hs0 : 0 ≤ (k : Int) % 32 := by omega
        rw [← Nat.add_assoc] at cA
        by_cases hlt2 : k / 32 + j + 1 < xs.length
        · obtain ⟨ba', offa', e2, cA2⟩ := hra.at hB hlt2
          have e3 := Option.some.inj e2
          injection e3 with e4 e5
          subst e4; subst e5
          have hy := dig_get hda (k / 32 + j + 1)
          have hst := hst (xs.getD (k / 32 + j + 1) 0) (.inl ⟨by omega, rfl⟩)
          generalize xs.getD (k / 32 + j + 1) 0 = y at *
          rw [show offa + (k / 32 + j + 1) = offa + k / 32 + (j + 1) by omega] at cA2
          have hor := or_high x y hx hy
          have HST := Lib.hid hst
          have hm : j + 1 < xs.length - k / 32 := by omega
          generalize p2 (k % 32) = P at *
          clear hra hst e2
          go_wp2
          go_roundw
          case rel =>
            obtain ⟨s1, s2, s3⟩ := HST.out
            rw [div_int]
            exact ⟨j + 1, _, by omega, by go_num, hR.set j (Nat.mod_lt _ (by omega)), by show _ = _; rw [List.length_set]; exact hL.out, hB.setCell (Nat.le_refl _) _, s2, s3⟩
          case measure => simp [intOf]; omega
        · have hst := hst 0 (.inr ⟨by omega, rfl⟩)
          have HST := Lib.hid hst
          have hm : ¬ j + 1 < xs.length - k / 32 := by omega
          generalize p2 (k % 32) = P at *
          clear hra hst
          go_wp2
          go_roundw
          case rel =>
            obtain ⟨s1, s2, s3⟩ := HST.out
            rw [div_int0]
            exact ⟨j + 1, _, by omega, by go_num, hR.set j (Nat.mod_lt _ (by omega)), by show _ = _; rw [List.length_set]; exact hL.out, hB.setCell (Nat.le_refl _) _, s2, s3⟩
          case measure => simp [intOf]; omega
      · have hv2 := shr_end hda (i := j) (by omega) hv.out
        rw [hva.out] at hv2
        have HV := Lib.hid hv2
        clear hv2 hra
        go_wp2_with (go_at_call 180; have hO : Own wr w.heap.size (.slice (some ⟨w.heap.size, 0, none⟩) (xs.length - k / 32) (xs.length - k / 32)) L := (by have h := hR; unfold Row at h; rw [hL.out] at h; exact h); refine (numTrim_own _ _ _ _ hO).mono ?_; rintro e w2 ⟨v, rfl, ho, rfl⟩)
        go_ret
        rw [HV.out] at ho
        exact ⟨v, rfl, ho, hB⟩
end Go.Proofs.YtlameeijogdckaaGreat
