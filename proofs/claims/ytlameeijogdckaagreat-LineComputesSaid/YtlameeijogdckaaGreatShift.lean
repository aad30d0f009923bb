/-
  Contracts of nat.Shl, nat.Shr, num.Left and num.Right: multiplication and division by powers of two.
-/
import Derived.Test.YtlameeijogdckaaGreatForms
namespace Go.Proofs.YtlameeijogdckaaGreat
open Go.RowKit

/-- 2^s, for a shift within a digit; a plain name, so that the walk sees no power. -/
def p2 (s : Nat) : Nat := 2 ^ s
theorem p2_pos (s : Nat) : 0 < p2 s := Nat.pow_pos (by omega)
theorem p2_le {s : Nat} (h : s < 32) : p2 s ≤ 2147483648 := by
  have : 2 ^ s ≤ 2 ^ 31 := Nat.pow_le_pow_right (by omega) (by omega)
  exact this
theorem p2_dvd {s : Nat} (h : s ≤ 32) : p2 s * p2 (32 - s) = 4294967296 := by
  unfold p2
  rw [← Nat.pow_add, Nat.add_sub_cancel' h]

theorem or_u32 {s y x : Nat} (hs : s < 32) (hy : y < p2 s) :
    bits .or .u32 (y : Int) (((x : Int) * (p2 s : Int)) % 4294967296) = ((y + x * p2 s % 4294967296 : Nat) : Int) ∧ y + x * p2 s % 4294967296 < 4294967296 := by
  have hd := p2_dvd (s := s) (by omega)
  have hpp := p2_pos (32 - s)
  have hle := p2_le hs
  have e : x * p2 s % 4294967296 = p2 s * (x % p2 (32 - s)) := by
    rw [← hd, Nat.mul_comm x, Nat.mul_mod_mul_left]
  have hlt : x % p2 (32 - s) < p2 (32 - s) := Nat.mod_lt _ hpp
  have hlt2 : p2 s * (x % p2 (32 - s)) + p2 s ≤ 4294967296 := by
    have : p2 s * (x % p2 (32 - s) + 1) ≤ p2 s * p2 (32 - s) := Nat.mul_le_mul_left _ hlt
    rw [Nat.mul_add, hd] at this
    omega
  have ho : y ||| x * p2 s % 4294967296 = y + x * p2 s % 4294967296 := by
    rw [e, Nat.or_comm, Nat.add_comm y]
    exact (Nat.two_pow_add_eq_or_of_lt (i := s) (b := y) hy (x % p2 (32 - s))).symm
  have h := u32_or_nat y (x * p2 s % 4294967296) (by omega) (by rw [e]; omega)
  rw [ho] at h
  refine ⟨?_, by rw [e]; omega⟩
  rw [← h, Int.natCast_emod, Int.natCast_mul]
  rfl

/-- One round of a shift to the left. -/
theorem shl_step {L : List Nat} {T x q s j : Nat} (hj : q + j + 1 < L.length) (hx : x < 4294967296)
    (hz : ∀ i, q + j + 1 ≤ i → L.getD i 0 = 0) (h : val L = 4294967296 ^ q * (T * p2 s)) (y : Nat) (hgy : L.getD (q + j) 0 = y) :
    let L' := (L.set (q + j) (y + x * p2 s % 4294967296)).set (q + j + 1) (x * p2 s / 4294967296)
    x * p2 s / 4294967296 < p2 s ∧ L'.getD (q + (j + 1)) 0 < p2 s ∧ (∀ i, q + (j + 1) + 1 ≤ i → L'.getD i 0 = 0) ∧ val L' = 4294967296 ^ q * ((T + 4294967296 ^ j * x) * p2 s) := by
  intro L'
  subst hgy
  have hpp := p2_pos s
  have hlt : x * p2 s / 4294967296 < p2 s := by
    apply Nat.div_lt_of_lt_mul
    exact (Nat.mul_lt_mul_right hpp).2 hx
  have e1 : q + (j + 1) = q + j + 1 := by omega
  have hlen1 : q + j + 1 < (L.set (q + j) (L.getD (q + j) 0 + x * p2 s % 4294967296)).length := by simpa using hj
  refine ⟨hlt, ?_, fun i hi => ?_, ?_⟩
  · rw [e1, set_getD_eq _ _ _ hlen1]; exact hlt
  · rw [set_getD_ne _ _ _ _ (by omega), set_getD_ne _ _ _ _ (by omega)]; exact hz i (by omega)
  · have h2 := val_set L (q + j) (L.getD (q + j) 0 + x * p2 s % 4294967296) (by omega)
    have h3 : val L' = val (L.set (q + j) (L.getD (q + j) 0 + x * p2 s % 4294967296)) + 4294967296 ^ (q + j + 1) * (x * p2 s / 4294967296) := by
      refine last_carry hlen1 ?_
      rw [set_getD_ne _ _ _ _ (by omega)]; exact hz _ (by omega)
    have e2 : 4294967296 ^ (q + j) * (x * p2 s % 4294967296) + 4294967296 ^ (q + j + 1) * (x * p2 s / 4294967296) = 4294967296 ^ (q + j) * (x * p2 s) := by
      rw [Nat.pow_succ, Nat.mul_assoc, ← Nat.mul_add]
      congr 1
      exact Nat.mod_add_div _ _
    have e3 : 4294967296 ^ q * ((T + 4294967296 ^ j * x) * p2 s) = 4294967296 ^ q * (T * p2 s) + 4294967296 ^ (q + j) * (x * p2 s) := by
      rw [Nat.add_mul, Nat.mul_add, Nat.pow_add, Nat.mul_assoc, Nat.mul_assoc]
    rw [Nat.mul_add] at h2
    rw [h3, e3, ← h]
    omega
theorem pow_split (k : Nat) : 4294967296 ^ (k / 32) * p2 (k % 32) = 2 ^ k := by
  unfold p2
  have : (4294967296 : Nat) = 2 ^ 32 := by decide
  rw [this, ← Nat.pow_mul, ← Nat.pow_add, Nat.div_add_mod]
theorem mulp_int {x P : Nat} (hx : x < 4294967296) (hP : P ≤ 2147483648) : (0 : Int) ≤ (x : Int) * (P : Int) ∧ (x : Int) * (P : Int) ≤ 9223372034707292160 := by
  have h : x * P ≤ 4294967295 * 2147483648 := Nat.mul_le_mul (by omega) hP
  rw [← Int.natCast_mul]
  omega
theorem pow_int (K : Nat) : (2 : Int) ^ ((K : Int) % 32).toNat = (p2 (K % 32) : Int) := by
  unfold p2
  have : ((K : Int) % 32).toNat = K % 32 := by omega
  rw [this, Int.natCast_pow]
  rfl

set_option maxRecDepth 100000 in
set_option maxHeartbeats 2000000 in
/-- nat.Shl returns a * 2^k for k at most 2^20. -/
theorem shl_any (w : World) (u : Value) (la : List Nat) (k : Nat) (hu : Rd w u la) (hla : la.length ≤ 1000000) (hk : k ≤ 1048576) :
    Calls Tryz.prog 240 #[u, .int .u64 (k : Int)] w fun e w' => ∃ z, e = .returned z ∧ Own w' w.heap.size z (nf (val la * 2 ^ k)) ∧ Below w.heap.size w w' := by
  have hle := nf_val_len hu.dig
  have hmin : min (k : Int) 1048576 = (k : Int) := by omega
  go_enter Tryz.func240, Tryz.ntmps240
  go_wp2_with fail
  refine (trim_any _ _ _ hu).mono ?_
  rintro e w1 ⟨u', rfl, hu', rfl⟩
  by_cases hn : val la = 0
  · have HN := Lib.hid (show val la * 2 ^ k = 0 by rw [hn, Nat.zero_mul])
    rw [hn] at hu'
    obtain ⟨a, capa, rfl, _, _, hda, hra⟩ := hu'
    have hb : (((nf 0).length : Int) == 0) = true := rfl
    have h0 : (nf 0).length = 0 := rfl
    generalize (nf 0).length = n at *
    subst h0
    clear hn hle
    go_wp2
    go_ret
    exact ⟨_, rfl, by rw [HN.out]; exact Own.nil _ _, Below.refl _ _⟩
  · have hp := nf_len_pos hn
    have hva := Lib.hid (val_nf (val la))
    have hb : (((nf (val la)).length : Int) == 0) = false := by rw [beq_eq_false_iff_ne]; omega
    generalize nf (val la) = xs at *
    obtain ⟨a, capa, rfl, _, _, hda, hra⟩ := hu'
    have hx1 : xs.length ≤ 1000000 := by omega
    have hs : k % 32 < 32 := Nat.mod_lt _ (by omega)
    clear hn hu hle hla
    go_wp2_with (at_make; go_loud (refine make_u32 _ rfl (.tmp 27) (.tmp 27) 23 rfl Tryz.underlying23 _ _ (xs.length + k / 32 + 1) rfl rfl (by omega) (by omega) (by omega) ?_); intro w1 R0 B0)
    go_loopw [31] (fun i wr => ∃ (j : Nat) (L : List Nat), j ≤ xs.length ∧ i = .int .i64 j ∧ Row wr w.heap.size w.heap.size (xs.length + k / 32 + 1) L ∧ Hid (L.length = xs.length + k / 32 + 1) ∧ Below w.heap.size w wr ∧
        Hid (L.getD (k / 32 + j) 0 < p2 (k % 32)) ∧ Hid (∀ i, k / 32 + j + 1 ≤ i → L.getD i 0 = 0) ∧ Hid (val L = 4294967296 ^ (k / 32) * (val (xs.take j) * p2 (k % 32)))) (fun i _ => xs.length - (intOf i).toNat)
    case atStart => exact ⟨0, _, Nat.zero_le _, rfl, R0, by show _ = _; simp, B0, by show _ < _; rw [getD_replicate]; exact p2_pos _, fun j _ => getD_replicate _ _, by show _ = _; simp [val_replicate, val_nil]⟩
    case round =>
      obtain ⟨j, L, hj, rfl, hR, hL, hB, hy, hz, hv⟩ := hrel
      have hRl := hR.lt
      have hRc := hR.cap
      by_cases hlt : j < xs.length
      · obtain ⟨ba, offa, rfl, cA⟩ := hra.at hB hlt
        have hx := dig_get hda j
        have hvt := val_take_snoc xs j hlt
        have hst := fun x hx => @shl_step L (val (xs.take j)) x (k / 32) (k % 32) j (by rw [hL.out]; omega) hx hz.out hv.out
        have hst := hst _ hx _ rfl
        rw [← hvt] at hst
        generalize xs.getD j 0 = x at *
        have cR := hR.cell (j := k / 32 + j) (by rw [hL.out]; omega)
        have fR := hR.free (k / 32 + j)
        have cR2 := hR.cell (j := k / 32 + j + 1) (by rw [hL.out]; omega)
        have fR2 := hR.free (k / 32 + j + 1)
        have hy1 := hy.out
        generalize L.getD (k / 32 + j) 0 = y at *
        generalize L.getD (k / 32 + j + 1) 0 = z at *
        have e1 : k / 32 + j = j + k / 32 := by omega
        rw [e1] at cR fR cR2 fR2
        have hor := or_u32 (x := x) hs hy1
        have hpi := pow_int k
        have hP := p2_le hs
        have hm := mulp_int hx hP
        have HO := Lib.hid hor.2
        have hor1 := hor.1
        have HST := Lib.hid hst
        have hs1 : (k : Int) % 32 < 32 := by omega
        have hs0 : 0 ≤ (k : Int) % 32 := by omega
        generalize hgP : p2 (k % 32) = P at *
        clear hra hst hvt hor e1 hgP hy1
        go_wp2
        go_roundw
        case rel =>
          obtain ⟨s1, s2, s3, s4⟩ := HST.out
          have e3 : (y : Int) + (x : Int) * (P : Int) % 4294967296 = ((y + x * P % 4294967296 : Nat) : Int) := by rw [Int.natCast_add, Int.natCast_emod, Int.natCast_mul]; rfl
          have e4 : (x : Int) * (P : Int) / 4294967296 = ((x * P / 4294967296 : Nat) : Int) := by rw [Int.natCast_ediv, Int.natCast_mul]; rfl
          have e1 : k / 32 + j = j + k / 32 := by omega
          rw [e3, e4]
          rw [e1] at s2 s3 s4
          exact ⟨j + 1, _, by omega, by go_num, (hR.set (j + k / 32) HO.out).set (j + k / 32 + 1) (by omega), by show _ = _; rw [List.length_set, List.length_set]; exact hL.out,
            (hB.setCell (Nat.le_refl _) _).setCell (Nat.le_refl _) _, s2, s3, s4⟩
        case measure => simp [intOf]; omega
      · have hjl : j = xs.length := by omega
        subst hjl
        have hv2 := hv.out
        rw [List.take_length, hva.out] at hv2
        have hv3 : val L = val la * 2 ^ k := by rw [hv2, ← pow_split k]; ac_rfl
        have HV := Lib.hid hv3
        clear hv2 hv3 hra
        go_wp2_with (go_at_call 227; refine (trim_row _ _ _ _ _ _ hR hL.out).mono ?_; rintro e w2 ⟨v, rfl, ho, rfl⟩)
        go_ret
        rw [HV.out] at ho
        exact ⟨v, rfl, ho, hB⟩

set_option maxRecDepth 100000 in
set_option maxHeartbeats 2000000 in
/-- num.Left returns a * 2^k. -/
theorem left_any (w : World) (u : Value) (m : Nat) (k : Nat) (hu : Rd w u (nf m)) (hla : (nf m).length ≤ 1000000) (hk : k ≤ 10000000) :
    Calls Tryz.prog 215 #[u, .int .i64 (k : Int)] w fun e w' => ∃ z, e = .returned z ∧ Own w' w.heap.size z (nf (m * 2 ^ k)) ∧ Below w.heap.size w w' := by
  have hva := Lib.hid (val_nf m)
  generalize nf m = xs at *
  obtain ⟨a, capa, rfl, _, _, hda, hra⟩ := hu
  have hs : k % 32 < 32 := Nat.mod_lt _ (by omega)
  go_enter Tryz.func215, Tryz.ntmps215
  go_wp2_with (at_make; go_loud (refine make_u32 _ rfl (.tmp 15) (.tmp 15) 22 rfl Tryz.underlying22 _ _ (k / 32 + xs.length + 1) rfl rfl (by omega) (by omega) (by omega) ?_); intro w1 R0 B0)
  go_loopw [22] (fun i wr => ∃ (j : Nat) (L : List Nat), j ≤ xs.length ∧ i = .int .i64 j ∧ Row wr w.heap.size w.heap.size (k / 32 + xs.length + 1) L ∧ Hid (L.length = k / 32 + xs.length + 1) ∧ Below w.heap.size w wr ∧
      Hid (L.getD (k / 32 + j) 0 < p2 (k % 32)) ∧ Hid (∀ i, k / 32 + j + 1 ≤ i → L.getD i 0 = 0) ∧ Hid (val L = 4294967296 ^ (k / 32) * (val (xs.take j) * p2 (k % 32)))) (fun i _ => xs.length - (intOf i).toNat)
  case atStart => exact ⟨0, _, Nat.zero_le _, rfl, R0, by show _ = _; simp, B0, by show _ < _; rw [getD_replicate]; exact p2_pos _, fun j _ => getD_replicate _ _, by show _ = _; simp [val_replicate, val_nil]⟩
  case round =>
    obtain ⟨j, L, hj, rfl, hR, hL, hB, hy, hz, hv⟩ := hrel
    have hRl := hR.lt
    have hRc := hR.cap
    by_cases hlt : j < xs.length
    · obtain ⟨ba, offa, rfl, cA⟩ := hra.at hB hlt
      have hx := dig_get hda j
      have hvt := val_take_snoc xs j hlt
      have hst := fun x hx => @shl_step L (val (xs.take j)) x (k / 32) (k % 32) j (by rw [hL.out]; omega) hx hz.out hv.out
      have hst := hst _ hx _ rfl
      rw [← hvt] at hst
      generalize xs.getD j 0 = x at *
      have cR := hR.cell (j := k / 32 + j) (by rw [hL.out]; omega)
      have fR := hR.free (k / 32 + j)
      have cR2 := hR.cell (j := k / 32 + j + 1) (by rw [hL.out]; omega)
      have fR2 := hR.free (k / 32 + j + 1)
      rw [hz.out _ (Nat.le_refl _)] at cR2
      have hy1 := hy.out
      generalize L.getD (k / 32 + j) 0 = y at *
      have hor := or_u32 (x := x) hs hy1
      have hpi := pow_int k
      have hP := p2_le hs
      have hm := mulp_int hx hP
      have HO := Lib.hid hor.2
      have hor1 := hor.1
      have HST := Lib.hid hst
      have hs1 : (k : Int) % 32 < 32 := by omega
      have hs0 : 0 ≤ (k : Int) % 32 := by omega
      generalize hgP : p2 (k % 32) = P at *
      have hor2 : bits .or .u32 0 ((x : Int) * (P : Int) / 4294967296) = (x : Int) * (P : Int) / 4294967296 := by
        have h1 : (x : Int) * (P : Int) / 4294967296 = ((x * P / 4294967296 : Nat) : Int) := by rw [Int.natCast_ediv, Int.natCast_mul]; rfl
        have h2 := u32_or_nat 0 (x * P / 4294967296) (by omega) (by have := hst.1; omega)
        rw [Nat.zero_or] at h2
        rw [h1]; exact h2
      clear hra hst hvt hor hgP hy1
      go_wp2
      go_roundw
      case rel =>
        obtain ⟨s1, s2, s3, s4⟩ := HST.out
        have e3 : (y : Int) + (x : Int) * (P : Int) % 4294967296 = ((y + x * P % 4294967296 : Nat) : Int) := by rw [Int.natCast_add, Int.natCast_emod, Int.natCast_mul]; rfl
        have e4 : (x : Int) * (P : Int) / 4294967296 = ((x * P / 4294967296 : Nat) : Int) := by rw [Int.natCast_ediv, Int.natCast_mul]; rfl
        rw [e3, e4]
        exact ⟨j + 1, _, by omega, by go_num, (hR.set (k / 32 + j) HO.out).set (k / 32 + j + 1) (by omega), by show _ = _; rw [List.length_set, List.length_set]; exact hL.out,
          (hB.setCell (Nat.le_refl _) _).setCell (Nat.le_refl _) _, s2, s3, s4⟩
      case measure => simp [intOf]; omega
    · have hjl : j = xs.length := by omega
      subst hjl
      have hv2 := hv.out
      rw [List.take_length, hva.out] at hv2
      have hv3 : val L = m * 2 ^ k := by rw [hv2, ← pow_split k]; ac_rfl
      have HV := Lib.hid hv3
      have hT := Row.rd hR
      clear hv2 hv3 hra
      go_wp2_with (go_at_call 180; have hO : Own wr w.heap.size (.slice (some ⟨w.heap.size, 0, none⟩) (k / 32 + xs.length + 1) (k / 32 + xs.length + 1)) L := (by have h := hR; unfold Row at h; rw [hL.out] at h; exact h); refine (numTrim_own _ _ _ _ hO).mono ?_; rintro e w2 ⟨v, rfl, ho, rfl⟩)
      go_ret
      rw [HV.out] at ho
      exact ⟨v, rfl, ho, hB⟩
end Go.Proofs.YtlameeijogdckaaGreat
