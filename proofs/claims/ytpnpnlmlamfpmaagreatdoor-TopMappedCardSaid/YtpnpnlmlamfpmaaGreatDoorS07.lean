import Derived.Test.YtpnpnlmlamfpmaaGreatDoorS03
namespace Go.Proofs.YtpnpnlmlamfpmaaGreatDoor
open Go.RowKit
set_option maxHeartbeats 40000000
set_option maxRecDepth 100000
set_option synthInstance.maxHeartbeats 1000000
set_option synthInstance.maxSize 100000
section
def p2 (s : Nat) : Nat := 2 ^ s
theorem Ft (s : Nat) : 0 < p2 s := Nat.pow_pos (by omega)
variable {s x : Nat}
theorem Rg (h : s < 32) : p2 s ≤ 2147483648 := by
 have : 2 ^ s ≤ 2 ^ 31 := Nat.pow_le_pow_right (by omega) (by omega)
 exact this
theorem We (h : s ≤ 32) : p2 s * p2 (32 - s) = 4294967296 := by
 unfold p2; rw [← Nat.pow_add, Nat.add_sub_cancel' h]
theorem Si {y : Nat} (hs : s < 32) (hy : y < p2 s) :
  bits .or .u32 (y : Int) (((x : Int) * (p2 s : Int)) % 4294967296) = ((y + x * p2 s % 4294967296 : Nat) : Int) ∧ y + x * p2 s % 4294967296 < 4294967296 := by
 have hd := We (s := s) (by omega)
 have hpp := Ft (32 - s)
 have hle := Rg hs
 have e : x * p2 s % 4294967296 = p2 s * (x % p2 (32 - s)) := by
  rw [← hd, Nat.mul_comm x, Nat.mul_mod_mul_left]
 have hlt : x % p2 (32 - s) < p2 (32 - s) := Nat.mod_lt _ hpp
 have hlt2 : p2 s * (x % p2 (32 - s)) + p2 s ≤ 4294967296 := by
  have : p2 s * (x % p2 (32 - s) + 1) ≤ p2 s * p2 (32 - s) := Nat.mul_le_mul_left _ hlt
  rw [Nat.mul_add, hd] at this; omega
 have ho : y ||| x * p2 s % 4294967296 = y + x * p2 s % 4294967296 := by
  rw [e, Nat.or_comm, Nat.add_comm y]; exact (Nat.two_pow_add_eq_or_of_lt (i := s) (b := y) hy (x % p2 (32 - s))).symm
 have h := u32_or_nat y (x * p2 s % 4294967296) (by omega) (by rw [e]; omega)
 rw [ho] at h
 refine ⟨?_, by rw [e]; omega⟩
 rw [← h, Int.natCast_emod, Int.natCast_mul]; rfl
theorem Vu {L : List Nat} {T x q s j : Nat} (hj : q + j + 1 < L.length) (hx : x < 4294967296)
  (hz : ∀ i, q + j + 1 ≤ i → L.getD i 0 = 0) (h : val L = 4294967296 ^ q * (T * p2 s)) (y : Nat) (hgy : L.getD (q + j) 0 = y) :
  let L' := (L.set (q + j) (y + x * p2 s % 4294967296)).set (q + j + 1) (x * p2 s / 4294967296)
  x * p2 s / 4294967296 < p2 s ∧ L'.getD (q + (j + 1)) 0 < p2 s ∧ (∀ i, q + (j + 1) + 1 ≤ i → L'.getD i 0 = 0) ∧ val L' = 4294967296 ^ q * ((T + 4294967296 ^ j * x) * p2 s) := by
 intro L'; subst hgy
 have hpp := Ft s
 have hlt : x * p2 s / 4294967296 < p2 s := by
  apply Nat.div_lt_of_lt_mul
  exact (Nat.mul_lt_mul_right hpp).2 hx
 have e1 : q + (j + 1) = q + j + 1 := (by omega)
 have hlen1 : q + j + 1 < (L.set (q + j) (L.getD (q + j) 0 + x * p2 s % 4294967296)).length := by simpa using hj
 refine ⟨hlt, ?_, fun i hi => ?_, ?_⟩
 ·rw [e1, Ml _ _ _ hlen1]; exact hlt
 ·rw [Cq _ _ _ _ (by omega), Cq _ _ _ _ (by omega)]; exact hz i (by omega)
 ·have h2 := J8 L (q + j) (L.getD (q + j) 0 + x * p2 s % 4294967296) (by omega)
  have h3 : val L' = val (L.set (q + j) (L.getD (q + j) 0 + x * p2 s % 4294967296)) + 4294967296 ^ (q + j + 1) * (x * p2 s / 4294967296) := by
   refine Gz hlen1 ?_
   rw [Cq _ _ _ _ (by omega)]; exact hz _ (by omega)
  have e2 : 4294967296 ^ (q + j) * (x * p2 s % 4294967296) + 4294967296 ^ (q + j + 1) * (x * p2 s / 4294967296) = 4294967296 ^ (q + j) * (x * p2 s) := by
   rw [Nat.pow_succ, Nat.mul_assoc, ← Nat.mul_add]
   congr 1
   exact Nat.mod_add_div _ _
  have e3 : 4294967296 ^ q * ((T + 4294967296 ^ j * x) * p2 s) = 4294967296 ^ q * (T * p2 s) + 4294967296 ^ (q + j) * (x * p2 s) := by
   rw [Nat.add_mul, Nat.mul_add, Nat.pow_add, Nat.mul_assoc, Nat.mul_assoc]
  rw [Nat.mul_add] at h2; rw [h3, e3, ← h]; omega
theorem Lf (k : Nat) : 4294967296 ^ (k / 32) * p2 (k % 32) = 2 ^ k := by
 unfold p2
 have : (4294967296 : Nat) = 2 ^ 32 := by decide
 rw [this, ← Nat.pow_mul, ← Nat.pow_add, Nat.div_add_mod]
theorem Yb {P : Nat} (hx : x < 4294967296) (hP : P ≤ 2147483648) : (0 : Int) ≤ (x : Int) * (P : Int) ∧ (x : Int) * (P : Int) ≤ 9223372034707292160 := by
 have h : x * P ≤ 4294967295 * 2147483648 := Nat.mul_le_mul (by omega) hP
 rw [← Int.natCast_mul]; omega
theorem Ll (K : Nat) : (2 : Int) ^ ((K : Int) % 32).toNat = (p2 (K % 32) : Int) := by
 unfold p2
 have : ((K : Int) % 32).toNat = K % 32 := by omega
 rw [this, Int.natCast_pow]; rfl
theorem Sn (w : World) (u : Value) (la : List Nat) (k : Nat) (hu : Rd w u la) (hla : la.length ≤ 1000000) (hk : k ≤ 1048576) :
  Calls Tryz.prog 244 #[u, .int .u64 (k : Int)] w fun e w' => ∃ z, e = .returned z ∧ Own w' w.heap.size z (nf (val la * 2 ^ k)) ∧ Below w.heap.size w w' := by
 have hle := Dr hu.dig
 have hmin : min (k : Int) 1048576 = (k : Int) := (by omega); go_enter Tryz.func244, Tryz.ntmps244; go_wp2_with fail
 refine (D3 _ _ _ hu).mono ?_
 rintro e w1 ⟨u', rfl, hu', rfl⟩
 by_cases hn : val la = 0
 ·have HN := Lib.hid (show val la * 2 ^ k = 0 by rw [hn, Nat.zero_mul]); rw [hn] at hu'; obtain ⟨a, capa, rfl, _, _, hda, hra⟩ := hu'
  have hb : (((nf 0).length : Int) == 0) = true := rfl
  have h0 : (nf 0).length = 0 := rfl
  generalize (nf 0).length = n at *
  subst h0; clear hn hle; go_wp2; go_ret
  exact ⟨_, rfl, by rw [HN.out]; exact Own.nil _ _, Below.refl _ _⟩
 ·have hp := Bw hn
  have hva := Lib.hid (Ah (val la))
  have hb : (((nf (val la)).length : Int) == 0) = false := by rw [beq_eq_false_iff_ne]; omega
  generalize nf (val la) = xs at *
  obtain ⟨a, capa, rfl, _, _, hda, hra⟩ := hu'; have hx1 : xs.length ≤ 1000000 := (by omega)
  have hs : k % 32 < 32 := Nat.mod_lt _ (by omega)
  clear hn hu hle hla
  go_wp2_with (at_make; go_loud (refine Dg _ rfl (.tmp 27) (.tmp 27) 45 rfl Tryz.underlying45 _ _ (xs.length + k / 32 + 1) rfl rfl (by omega) (by omega) (by omega) ?_); intro w1 R0 B0)
  go_loopw [31] (fun i wr => ∃ (j : Nat) (L : List Nat), j ≤ xs.length ∧ i = .int .i64 j ∧ Row wr w.heap.size w.heap.size (xs.length + k / 32 + 1) L ∧ Hid (L.length = xs.length + k / 32 + 1) ∧ Below w.heap.size w wr ∧
    Hid (L.getD (k / 32 + j) 0 < p2 (k % 32)) ∧ Hid (∀ i, k / 32 + j + 1 ≤ i → L.getD i 0 = 0) ∧ Hid (val L = 4294967296 ^ (k / 32) * (val (xs.take j) * p2 (k % 32)))) (fun i _ => xs.length - (intOf i).toNat)
  case atStart => exact ⟨0, _, Nat.zero_le _, rfl, R0, by show _ = _; simp, B0, by show _ < _; rw [C3]; exact Ft _, fun j _ => C3 _ _, by show _ = _; simp [Dc, Ay]⟩
  case round =>
   obtain ⟨j, L, hj, rfl, hR, hL, hB, hy, hz, hv⟩ := hrel
   have hRl := hR.lt
   have hRc := hR.cap
   by_cases hlt : j < xs.length
   ·obtain ⟨ba, offa, rfl, cA⟩ := hra.at hB hlt
    have hx := An hda j
    have hvt := Ds xs j hlt
    have hst := fun x hx => @Vu L (val (xs.take j)) x (k / 32) (k % 32) j (by rw [hL.out]; omega) hx hz.out hv.out
    have hst := hst _ hx _ rfl
    rw [← hvt] at hst
    generalize xs.getD j 0 = x at *
    have cR := hR.cell (j := k / 32 + j) (by rw [hL.out]; omega)
    have fR := hR.free (k / 32 + j)
    have cR2 := hR.cell (j := k / 32 + j + 1) (by rw [hL.out]; omega)
    have fR2 := hR.free (k / 32 + j + 1)
    have hy1 := hy.out
    generalize L.getD (k / 32 + j) 0 = y, L.getD (k / 32 + j + 1) 0 = z at *
    have e1 : k / 32 + j = j + k / 32 := (by omega); rw [e1] at cR fR cR2 fR2
    have hor := Si (x := x) hs hy1
    have hpi := Ll k
    have hP := Rg hs
    have hm := Yb hx hP
    have HO := Lib.hid hor.2
    have hor1 := hor.1
    have HST := Lib.hid hst; have hs1 : (k : Int) % 32 < 32 := (by omega); have hs0 : 0 ≤ (k : Int) % 32 := (by omega)
    generalize hgP : p2 (k % 32) = P at *
    clear hra hst hvt hor e1 hgP hy1; go_wp2
    go_roundw
    case rel =>
     obtain ⟨s1, s2, s3, s4⟩ := HST.out
     have e3 : (y : Int) + (x : Int) * (P : Int) % 4294967296 = ((y + x * P % 4294967296 : Nat) : Int) := by rw [Int.natCast_add, Int.natCast_emod, Int.natCast_mul]; rfl
     have e4 : (x : Int) * (P : Int) / 4294967296 = ((x * P / 4294967296 : Nat) : Int) := by rw [Int.natCast_ediv, Int.natCast_mul]; rfl
     have e1 : k / 32 + j = j + k / 32 := (by omega); rw [e3, e4]; rw [e1] at s2 s3 s4
     exact ⟨j + 1, _, by omega, by go_num, (hR.set (j + k / 32) HO.out).set (j + k / 32 + 1) (by omega), by show _ = _; rw [List.length_set, List.length_set]; exact hL.out,
      (hB.setCell (Nat.le_refl _) _).setCell (Nat.le_refl _) _, s2, s3, s4⟩
    case measure => simp [intOf]; omega
   ·have hjl : j = xs.length := by omega
    subst hjl
    have hv2 := hv.out
    rw [List.take_length, hva.out] at hv2
    have hv3 : val L = val la * 2 ^ k := by rw [hv2, ← Lf k]; ac_rfl
    have HV := Lib.hid hv3; clear hv2 hv3 hra
    go_wp2_with (go_at_call 206; refine (Gi _ _ _ _ _ _ hR hL.out).mono ?_; rintro e w2 ⟨v, rfl, ho, rfl⟩)
    go_ret; rw [HV.out] at ho; exact ⟨v, rfl, ho, hB⟩
theorem Fq (w : World) (u : Value) (m : Nat) (k : Nat) (hu : Rd w u (nf m)) (hla : (nf m).length ≤ 1000000) (hk : k ≤ 10000000) :
  Calls Tryz.prog 196 #[u, .int .i64 (k : Int)] w fun e w' => ∃ z, e = .returned z ∧ Own w' w.heap.size z (nf (m * 2 ^ k)) ∧ Below w.heap.size w w' := by
 have hva := Lib.hid (Ah m)
 generalize nf m = xs at *
 obtain ⟨a, capa, rfl, _, _, hda, hra⟩ := hu
 have hs : k % 32 < 32 := Nat.mod_lt _ (by omega)
 go_enter Tryz.func196, Tryz.ntmps196
 go_wp2_with (at_make; go_loud (refine Dg _ rfl (.tmp 15) (.tmp 15) 25 rfl Tryz.underlying25 _ _ (k / 32 + xs.length + 1) rfl rfl (by omega) (by omega) (by omega) ?_); intro w1 R0 B0)
 go_loopw [22] (fun i wr => ∃ (j : Nat) (L : List Nat), j ≤ xs.length ∧ i = .int .i64 j ∧ Row wr w.heap.size w.heap.size (k / 32 + xs.length + 1) L ∧ Hid (L.length = k / 32 + xs.length + 1) ∧ Below w.heap.size w wr ∧
   Hid (L.getD (k / 32 + j) 0 < p2 (k % 32)) ∧ Hid (∀ i, k / 32 + j + 1 ≤ i → L.getD i 0 = 0) ∧ Hid (val L = 4294967296 ^ (k / 32) * (val (xs.take j) * p2 (k % 32)))) (fun i _ => xs.length - (intOf i).toNat)
 case atStart => exact ⟨0, _, Nat.zero_le _, rfl, R0, by show _ = _; simp, B0, by show _ < _; rw [C3]; exact Ft _, fun j _ => C3 _ _, by show _ = _; simp [Dc, Ay]⟩
 case round =>
  obtain ⟨j, L, hj, rfl, hR, hL, hB, hy, hz, hv⟩ := hrel
  have hRl := hR.lt
  have hRc := hR.cap
  by_cases hlt : j < xs.length
  ·obtain ⟨ba, offa, rfl, cA⟩ := hra.at hB hlt
   have hx := An hda j
   have hvt := Ds xs j hlt
   have hst := fun x hx => @Vu L (val (xs.take j)) x (k / 32) (k % 32) j (by rw [hL.out]; omega) hx hz.out hv.out
   have hst := hst _ hx _ rfl
   rw [← hvt] at hst
   generalize xs.getD j 0 = x at *
   have cR := hR.cell (j := k / 32 + j) (by rw [hL.out]; omega)
   have fR := hR.free (k / 32 + j)
   have cR2 := hR.cell (j := k / 32 + j + 1) (by rw [hL.out]; omega)
   have fR2 := hR.free (k / 32 + j + 1)
   rw [hz.out _ (Nat.le_refl _)] at cR2
   have hy1 := hy.out
   generalize L.getD (k / 32 + j) 0 = y at *
   have hor := Si (x := x) hs hy1
   have hpi := Ll k
   have hP := Rg hs
   have hm := Yb hx hP
   have HO := Lib.hid hor.2
   have hor1 := hor.1
   have HST := Lib.hid hst; have hs1 : (k : Int) % 32 < 32 := (by omega); have hs0 : 0 ≤ (k : Int) % 32 := (by omega)
   generalize hgP : p2 (k % 32) = P at *
   have hor2 : bits .or .u32 0 ((x : Int) * (P : Int) / 4294967296) = (x : Int) * (P : Int) / 4294967296 := by
    have h1 : (x : Int) * (P : Int) / 4294967296 = ((x * P / 4294967296 : Nat) : Int) := by rw [Int.natCast_ediv, Int.natCast_mul]; rfl
    have h2 := u32_or_nat 0 (x * P / 4294967296) (by omega) (by have := hst.1; omega)
    rw [Nat.zero_or] at h2
    rw [h1]; exact h2
   clear hra hst hvt hor hgP hy1; go_wp2
   go_roundw
   case rel =>
    obtain ⟨s1, s2, s3, s4⟩ := HST.out
    have e3 : (y : Int) + (x : Int) * (P : Int) % 4294967296 = ((y + x * P % 4294967296 : Nat) : Int) := by rw [Int.natCast_add, Int.natCast_emod, Int.natCast_mul]; rfl
    have e4 : (x : Int) * (P : Int) / 4294967296 = ((x * P / 4294967296 : Nat) : Int) := by rw [Int.natCast_ediv, Int.natCast_mul]; rfl
    rw [e3, e4]
    exact ⟨j + 1, _, by omega, by go_num, (hR.set (k / 32 + j) HO.out).set (k / 32 + j + 1) (by omega), by show _ = _; rw [List.length_set, List.length_set]; exact hL.out,
     (hB.setCell (Nat.le_refl _) _).setCell (Nat.le_refl _) _, s2, s3, s4⟩
   case measure => simp [intOf]; omega
  ·have hjl : j = xs.length := by omega
   subst hjl
   have hv2 := hv.out
   rw [List.take_length, hva.out] at hv2
   have hv3 : val L = m * 2 ^ k := by rw [hv2, ← Lf k]; ac_rfl
   have HV := Lib.hid hv3
   have hT := Row.rd hR
   clear hv2 hv3 hra
   go_wp2_with (go_at_call 107; have hO : Own wr w.heap.size (.slice (some ⟨w.heap.size, 0, none⟩) (k / 32 + xs.length + 1) (k / 32 + xs.length + 1)) L := (by have h := hR; unfold Row at h; rw [hL.out] at h; exact h); refine (Eg _ _ _ _ hO).mono ?_; rintro e w2 ⟨v, rfl, ho, rfl⟩)
   go_ret; rw [HV.out] at ho; exact ⟨v, rfl, ho, hB⟩
end
section
variable {P k x y : Nat}
theorem Qhd {S S2 s : Nat} (hs : s < 32) (hx : x < 4294967296) (hS : S = y + 4294967296 * S2) :
  (x + 4294967296 * S) / p2 s = (x + 4294967296 * y) / p2 s % 4294967296 + 4294967296 * (S / p2 s) := by
 have hd := We (s := s) (by omega)
 have hP := Ft s
 have hP' := Ft (32 - s)
 generalize p2 (32 - s) = Q, p2 s = P at *
 have e1 : ∀ t, (x + 4294967296 * t) / P = x / P + Q * t := fun t => by
  rw [← hd, Nat.mul_assoc, Nat.add_mul_div_left _ _ hP]
 rw [e1, e1]
 have hxq : x / P < Q := by
  apply Nat.div_lt_of_lt_mul
  rw [hd]; exact hx
 have e2 : Q * S = 4294967296 * (S / P) + Q * (S % P) := by
  conv => lhs; rw [← Nat.div_add_mod S P]
  rw [Nat.mul_add, ← Nat.mul_assoc, Nat.mul_comm Q P, hd]
 have e3 : Q * S = Q * y + 4294967296 * (Q * S2) := by
  rw [hS, Nat.mul_add, ← Nat.mul_assoc, Nat.mul_comm Q 4294967296, Nat.mul_assoc]
 have hu : S % P < P := Nat.mod_lt _ hP
 have hlt : Q * (S % P) + Q ≤ 4294967296 := by
  have : Q * (S % P + 1) ≤ Q * P := Nat.mul_le_mul_left _ hu
  rw [Nat.mul_add, Nat.mul_comm Q P, hd] at this; omega
 have e4 : (x / P + Q * y) % 4294967296 = x / P + Q * (S % P) := by
  have h1 : x / P + Q * y + 4294967296 * (Q * S2) = x / P + Q * (S % P) + 4294967296 * (S / P) := (by omega)
  have h2 : (x / P + Q * y + 4294967296 * (Q * S2)) % 4294967296 = (x / P + Q * (S % P) + 4294967296 * (S / P)) % 4294967296 := by rw [h1]
  rw [Nat.add_mul_mod_self_left, Nat.add_mul_mod_self_left] at h2; rw [h2, Nat.mod_eq_of_lt (by omega)]
 rw [e4, e2]; omega
theorem S7 {xs L : List Nat} {V q i s x y : Nat} (hs : s < 32) (hqi : q + i < xs.length) (hL : i < L.length) (hdx : Dig xs) (hdL : Dig L) (hx : xs.getD (q + i) 0 = x)
  (hy : (q + i + 1 < xs.length ∧ xs.getD (q + i + 1) 0 = y) ∨ (xs.length ≤ q + i + 1 ∧ y = 0)) (hz : ∀ j, i ≤ j → L.getD j 0 = 0)
  (h : val L + 4294967296 ^ i * (val (xs.drop (q + i)) / p2 s) = V) :
  Dig (L.set i ((x + 4294967296 * y) / p2 s % 4294967296)) ∧ (∀ j, i + 1 ≤ j → (L.set i ((x + 4294967296 * y) / p2 s % 4294967296)).getD j 0 = 0) ∧
   val (L.set i ((x + 4294967296 * y) / p2 s % 4294967296)) + 4294967296 ^ (i + 1) * (val (xs.drop (q + (i + 1))) / p2 s) = V := by
 have hx2 := An hdx (q + i)
 rw [hx] at hx2
 have h1 := Ck xs (q + i) hqi
 rw [hx] at h1
 have h2 : ∃ S2, val (xs.drop (q + i + 1)) = y + 4294967296 * S2 := by
  rcases hy with ⟨hy1, hy2⟩ | ⟨hy1, rfl⟩
  ·exact ⟨_, by rw [Ck xs (q + i + 1) hy1, hy2]⟩
  ·exact ⟨0, by rw [List.drop_eq_nil_of_le hy1, Ay]⟩
 obtain ⟨S2, h2⟩ := h2
 have h3 := Qhd (x := x) (s := s) hs hx2 h2
 refine ⟨G6 hdL _ (Nat.mod_lt _ (by omega)), fun j hj => by rw [Cq _ _ _ _ (by omega)]; exact hz j (by omega), ?_⟩
 rw [Gz hL (hz i (Nat.le_refl _)), ← h, h1, h3, Nat.mul_add, Nat.pow_succ, Nat.mul_assoc, ← Nat.add_assoc q i 1]; omega
variable {xs : List Nat}
theorem T6 (hd : Dig xs) (k : Nat) : val (xs.drop (k / 32)) / p2 (k % 32) = val xs / 2 ^ k := by
 by_cases h : k / 32 ≤ xs.length
 ·have h1 := Dt xs (k / 32) h
  have h2 := C9 (xs.take (k / 32)) (E7 hd _)
  rw [List.length_take, Nat.min_eq_left h] at h2; rw [← Lf k, ← Nat.div_div_eq_div_mul, h1, Nat.add_mul_div_left _ _ (Nat.pow_pos (by omega)), Nat.div_eq_of_lt h2, Nat.zero_add]
 ·rw [List.drop_eq_nil_of_le (by omega), Ay, Nat.zero_div, Nat.div_eq_of_lt]
  have h1 := C9 xs hd
  rw [← Lf k]
  have h2 : 4294967296 ^ xs.length ≤ 4294967296 ^ (k / 32) := Nat.pow_le_pow_right (by omega) (by omega)
  have h3 : 4294967296 ^ (k / 32) * 1 ≤ 4294967296 ^ (k / 32) * p2 (k % 32) := Nat.mul_le_mul_left _ (Ft _)
  omega
theorem V0 (hd : Dig xs) (h : xs.length ≤ k / 32) : val xs / 2 ^ k = 0 := by
 rw [← T6 hd, List.drop_eq_nil_of_le h, Ay, Nat.zero_div]
theorem Tw {L : List Nat} {i : Nat} (hd : Dig xs) (hi : k / 32 + i = xs.length) (h : val L + 4294967296 ^ i * (val (xs.drop (k / 32 + i)) / p2 (k % 32)) = val (xs.drop (k / 32)) / p2 (k % 32)) : val L = val xs / 2 ^ k := by
 rw [hi, List.drop_eq_nil_of_le (Nat.le_refl _), Ay, Nat.zero_div, Nat.mul_zero, Nat.add_zero, T6 hd] at h; exact h
theorem U8 : ((x : Int) + 4294967296 * (y : Int)) / (P : Int) % 4294967296 = (((x + 4294967296 * y) / P % 4294967296 : Nat) : Int) := by
 rw [Int.natCast_emod, Int.natCast_ediv, Int.natCast_add, Int.natCast_mul]; rfl
theorem Uq : (x : Int) / (P : Int) % 4294967296 = (((x + 4294967296 * 0) / P % 4294967296 : Nat) : Int) := by
 rw [Nat.mul_zero, Nat.add_zero, Int.natCast_emod, Int.natCast_ediv]; rfl
theorem Qd1 (w : World) (u : Value) (la : List Nat) (k : Nat) (hu : Rd w u la) (hla : la.length ≤ 1000000) (hk : k < 18446744073709551616) :
  Calls Tryz.prog 245 #[u, .int .u64 (k : Int)] w fun e w' => ∃ z, e = .returned z ∧ Own w' w.heap.size z (nf (val la / 2 ^ k)) ∧ Below w.heap.size w w' := by
 have hle := Dr hu.dig
 go_enter Tryz.func245, Tryz.ntmps245; go_wp2_with fail
 refine (D3 _ _ _ hu).mono ?_
 rintro e w1 ⟨u', rfl, hu', rfl⟩
 have hva := Lib.hid (Ah (val la))
 generalize nf (val la) = xs at *
 obtain ⟨a, capa, rfl, _, _, hda, hra⟩ := hu'; have hx1 : xs.length ≤ 1000000 := (by omega); clear hu hle hla
 by_cases hn : xs.length ≤ k / 32
 ·have HN := Lib.hid (V0 hda hn); have hni : (xs.length : Int) ≤ (k : Int) / 32 := (by omega); go_wp2; go_ret
  exact ⟨_, rfl, by rw [← hva.out, HN.out]; exact Own.nil _ _, Below.refl _ _⟩
 ·have hk2 : k / 32 < xs.length := by omega
  have hk3 : (k : Int) / 32 < (xs.length : Int) := (by omega)
  have hs : k % 32 < 32 := Nat.mod_lt _ (by omega)
  clear hn
  go_wp2_with (at_make; go_loud (refine Dg _ rfl (.tmp 26) (.tmp 26) 45 rfl Tryz.underlying45 _ _ (xs.length - k / 32) rfl rfl (by omega) (by omega) (by omega) ?_); intro w1 R0 B0)
  go_loopw [30] (fun i wr => ∃ (j : Nat) (L : List Nat), j ≤ xs.length - k / 32 ∧ i = .int .i64 j ∧ Row wr w.heap.size w.heap.size (xs.length - k / 32) L ∧ Hid (L.length = xs.length - k / 32) ∧ Below w.heap.size w wr ∧
    Hid (∀ i, j ≤ i → L.getD i 0 = 0) ∧ Hid (val L + 4294967296 ^ j * (val (xs.drop (k / 32 + j)) / p2 (k % 32)) = val (xs.drop (k / 32)) / p2 (k % 32))) (fun i _ => (xs.length - k / 32) - (intOf i).toNat)
  case atStart => exact ⟨0, _, Nat.zero_le _, rfl, R0, by show _ = _; simp, B0, fun j _ => C3 _ _, by show _ = _; simp [Dc]⟩
  case round =>
   obtain ⟨j, L, hj, rfl, hR, hL, hB, hz, hv⟩ := hrel
   have hRl := hR.lt
   have hRc := hR.cap
   by_cases hlt : j < xs.length - k / 32
   ·obtain ⟨ba, offa, rfl, cA⟩ := hra.at hB (k := k / 32 + j) (by omega)
    have hx := An hda (k / 32 + j)
    have hst := fun x y hx => @S7 xs L (val (xs.drop (k / 32)) / p2 (k % 32)) (k / 32) j (k % 32) x y hs (by omega) (by rw [hL.out]; exact hlt) hda hR.dig hx
    have hst := fun y hy => hst (xs.getD (k / 32 + j) 0) y rfl hy hz.out hv.out
    generalize xs.getD (k / 32 + j) 0 = x at *
    have cR := hR.cell (j := j) (by rw [hL.out]; omega)
    have fR := hR.free j
    generalize L.getD j 0 = z at *
    have hpi := Ll k
    have hP := Ft (k % 32)
    have hs1 : (k : Int) % 32 < 32 := (by omega); have hs0 : 0 ≤ (k : Int) % 32 := (by omega); have e1 : k / 32 + j = j + k / 32 := (by omega); rw [e1] at cA
    by_cases hlt2 : j + k / 32 + 1 < xs.length
    ·obtain ⟨ba', offa', e2, cA2⟩ := hra.at hB hlt2
     have e3 := Option.some.inj e2
     injection e3 with e4 e5
     subst e4; subst e5
     have hy := An hda (j + k / 32 + 1)
     have hst := hst (xs.getD (j + k / 32 + 1) 0) (.inl ⟨by omega, by rw [e1]⟩)
     generalize xs.getD (j + k / 32 + 1) 0 = y at *
     have hor := N0 x y hx hy
     have HST := Lib.hid hst; have hm : (j : Int) + (k : Int) / 32 + 1 < (xs.length : Int) := (by omega)
     generalize p2 (k % 32) = P at *
     clear hra hst e1 e2; go_wp2
     go_roundw
     case rel =>
      obtain ⟨s1, s2, s3⟩ := HST.out; rw [U8]
      exact ⟨j + 1, _, by omega, by go_num, hR.set j (Nat.mod_lt _ (by omega)), by show _ = _; rw [List.length_set]; exact hL.out, hB.setCell (Nat.le_refl _) _, s2, s3⟩
     case measure => simp [intOf]; omega
    ·have hst := hst 0 (.inr ⟨by omega, rfl⟩)
     have HST := Lib.hid hst; have hm : (xs.length : Int) ≤ (j : Int) + (k : Int) / 32 + 1 := (by omega)
     generalize p2 (k % 32) = P at *
     clear hra hst e1; go_wp2
     go_roundw
     case rel =>
      obtain ⟨s1, s2, s3⟩ := HST.out; rw [Uq]
      exact ⟨j + 1, _, by omega, by go_num, hR.set j (Nat.mod_lt _ (by omega)), by show _ = _; rw [List.length_set]; exact hL.out, hB.setCell (Nat.le_refl _) _, s2, s3⟩
     case measure => simp [intOf]; omega
   ·have hv2 := Tw hda (i := j) (by omega) hv.out
    rw [hva.out] at hv2; have HV := Lib.hid hv2; clear hv2 hra
    go_wp2_with (go_at_call 206; refine (Gi _ _ _ _ _ _ hR hL.out).mono ?_; rintro e w2 ⟨v, rfl, ho, rfl⟩)
    go_ret; rw [HV.out] at ho; exact ⟨v, rfl, ho, hB⟩
theorem Qaf (w : World) (u : Value) (m : Nat) (k : Nat) (hu : Rd w u (nf m)) (hla : (nf m).length ≤ 1000000) (hk : k < 9223372036854775808) :
  Calls Tryz.prog 197 #[u, .int .i64 (k : Int)] w fun e w' => ∃ z, e = .returned z ∧ Own w' w.heap.size z (nf (m / 2 ^ k)) ∧ Below w.heap.size w w' := by
 have hva := Lib.hid (Ah m)
 generalize nf m = xs at *
 obtain ⟨a, capa, rfl, hcap, hcm, hda, hra⟩ := hu; go_enter Tryz.func197, Tryz.ntmps197
 by_cases hn : xs.length ≤ k / 32
 ·have HN := Lib.hid (V0 hda hn); have hni : (xs.length : Int) ≤ (k : Int) / 32 := (by omega); go_wp2; go_ret
  exact ⟨_, rfl, by rw [← hva.out, HN.out]; exact Own.nil _ _, Below.refl _ _⟩
 ·have hk2 : k / 32 < xs.length := by omega
  have hk3 : (k : Int) / 32 < (xs.length : Int) := (by omega)
  have hs : k % 32 < 32 := Nat.mod_lt _ (by omega)
  have hne : ¬ capa = k / 32 := (by omega); clear hn; obtain ⟨ba, offa, rfl, hca⟩ := hra (by omega)
  have hra : C5 w (some ⟨ba, offa, none⟩) xs := fun _ => ⟨ba, offa, rfl, hca⟩
  clear hca
  go_wp2_with (at_make; go_loud (refine Dg _ rfl (.tmp 24) (.tmp 24) 25 rfl Tryz.underlying25 _ _ (xs.length - k / 32) rfl rfl (by omega) (by omega) (by omega) ?_); intro w1 R0 B0)
  go_loopw [28] (fun i wr => ∃ (j : Nat) (L : List Nat), j ≤ xs.length - k / 32 ∧ i = .int .i64 j ∧ Row wr w.heap.size w.heap.size (xs.length - k / 32) L ∧ Hid (L.length = xs.length - k / 32) ∧ Below w.heap.size w wr ∧
    Hid (∀ i, j ≤ i → L.getD i 0 = 0) ∧ Hid (val L + 4294967296 ^ j * (val (xs.drop (k / 32 + j)) / p2 (k % 32)) = val (xs.drop (k / 32)) / p2 (k % 32))) (fun i _ => (xs.length - k / 32) - (intOf i).toNat)
  case atStart => exact ⟨0, _, Nat.zero_le _, rfl, R0, by show _ = _; simp, B0, fun j _ => C3 _ _, by show _ = _; simp [Dc]⟩
  case round =>
   obtain ⟨j, L, hj, rfl, hR, hL, hB, hz, hv⟩ := hrel
   have hRl := hR.lt
   have hRc := hR.cap
   by_cases hlt : j < xs.length - k / 32
   ·obtain ⟨ba', offa', e0, cA⟩ := hra.at hB (k := k / 32 + j) (by omega)
    have e0 := Option.some.inj e0
    injection e0 with e4 e5
    subst e4; subst e5
    have hx := An hda (k / 32 + j)
    have hst := fun x y hx => @S7 xs L (val (xs.drop (k / 32)) / p2 (k % 32)) (k / 32) j (k % 32) x y hs (by omega) (by rw [hL.out]; exact hlt) hda hR.dig hx
    have hst := fun y hy => hst (xs.getD (k / 32 + j) 0) y rfl hy hz.out hv.out
    generalize xs.getD (k / 32 + j) 0 = x at *
    have cR := hR.cell (j := j) (by rw [hL.out]; omega)
    have fR := hR.free j
    generalize L.getD j 0 = z at *
    have hpi := Ll k
    have hP := Ft (k % 32)
    have hs1 : (k : Int) % 32 < 32 := (by omega); have hs0 : 0 ≤ (k : Int) % 32 := (by omega); rw [← Nat.add_assoc] at cA
    by_cases hlt2 : k / 32 + j + 1 < xs.length
    ·obtain ⟨ba', offa', e2, cA2⟩ := hra.at hB hlt2
     have e3 := Option.some.inj e2
     injection e3 with e4 e5
     subst e4; subst e5
     have hy := An hda (k / 32 + j + 1)
     have hst := hst (xs.getD (k / 32 + j + 1) 0) (.inl ⟨by omega, rfl⟩)
     generalize xs.getD (k / 32 + j + 1) 0 = y at *
     rw [show offa + (k / 32 + j + 1) = offa + k / 32 + (j + 1) by omega] at cA2
     have hor := N0 x y hx hy
     have HST := Lib.hid hst; have hm : j + 1 < xs.length - k / 32 := (by omega)
     generalize p2 (k % 32) = P at *
     clear hra hst e2; go_wp2
     go_roundw
     case rel =>
      obtain ⟨s1, s2, s3⟩ := HST.out; rw [U8]
      exact ⟨j + 1, _, by omega, by go_num, hR.set j (Nat.mod_lt _ (by omega)), by show _ = _; rw [List.length_set]; exact hL.out, hB.setCell (Nat.le_refl _) _, s2, s3⟩
     case measure => simp [intOf]; omega
    ·have hst := hst 0 (.inr ⟨by omega, rfl⟩)
     have HST := Lib.hid hst; have hm : ¬ j + 1 < xs.length - k / 32 := (by omega)
     generalize p2 (k % 32) = P at *
     clear hra hst; go_wp2
     go_roundw
     case rel =>
      obtain ⟨s1, s2, s3⟩ := HST.out; rw [Uq]
      exact ⟨j + 1, _, by omega, by go_num, hR.set j (Nat.mod_lt _ (by omega)), by show _ = _; rw [List.length_set]; exact hL.out, hB.setCell (Nat.le_refl _) _, s2, s3⟩
     case measure => simp [intOf]; omega
   ·have hv2 := Tw hda (i := j) (by omega) hv.out
    rw [hva.out] at hv2; have HV := Lib.hid hv2; clear hv2 hra
    go_wp2_with (go_at_call 107; have hO : Own wr w.heap.size (.slice (some ⟨w.heap.size, 0, none⟩) (xs.length - k / 32) (xs.length - k / 32)) L := (by have h := hR; unfold Row at h; rw [hL.out] at h; exact h); refine (Eg _ _ _ _ hO).mono ?_; rintro e w2 ⟨v, rfl, ho, rfl⟩)
    go_ret; rw [HV.out] at ho; exact ⟨v, rfl, ho, hB⟩
end
end Go.Proofs.YtpnpnlmlamfpmaaGreatDoor
