import Derived.Test.YtpnpnlmlamfpmaaGreatDoorS10
namespace Go.Proofs.YtpnpnlmlamfpmaaGreatDoor
open Go.RowKit
set_option maxHeartbeats 40000000
set_option maxRecDepth 100000
set_option synthInstance.maxHeartbeats 1000000
set_option synthInstance.maxSize 100000
variable {R V W c g j l m n s : Nat} {w : World}
theorem Yi {h y : Nat} (hhy : h < y) (hl : l < 4294967296) (hy : y < 4294967296) :
  Calls Tryz.prog 148 #[.int .u32 (h : Int), .int .u32 (l : Int), .int .u32 (y : Int)] w fun e w' => e = .returned (.tuple #[.int .u32 (((l + 4294967296 * h) / y : Nat) : Int), .int .u32 (((l + 4294967296 * h) % y : Nat) : Int)]) ∧ ∃ j, w' = w.drewN j := by
 have ho := Lib.hid (Ii l h hl (by omega))
 have hq : (l + 4294967296 * h) / y < 4294967296 := by
  rw [Nat.div_lt_iff_lt_mul (by omega)]
  have : 4294967296 * (h + 1) ≤ 4294967296 * y := Nat.mul_le_mul_left _ hhy
  omega
 have hr : (l + 4294967296 * h) % y < y := Nat.mod_lt _ (by omega)
 have b1 : ((y : Int) != 0) = true := by rw [bne_iff_ne]; omega
 have b2 : decide ((y : Int) ≤ (h : Int)) = false := by simp; omega
 go_enter Tryz.func148, Tryz.ntmps148; go_wp2; rw [ho.out]; have hN : l + 4294967296 * h < 18446744073709551616 := (by omega)
 generalize hNe : l + 4294967296 * h = N at *
 have HNE := Lib.hid hNe; clear hNe; clear b1 b2; have hy1 : (1 : Int) ≤ (y : Int) := (by omega)
 have hy0 : ((y : Int) == 0) = false := by rw [beq_eq_false_iff_ne]; omega
 have hyz : ¬ (y = 0) := (by omega)
 go_quiet (fail)
 go_wp2; go_ret2
 refine ⟨?_, _, rfl⟩
 rw [HNE.out]
 have e1 : (N : Int) / (y : Int) = ((N / y : Nat) : Int) := (Int.natCast_ediv _ _).symm
 have e2 : (N : Int) % (y : Int) = ((N % y : Nat) : Int) := (Int.natCast_emod _ _).symm
 exact Mb (by rw [e1, IntKind.wrap_u64]; have : (0:Int) ≤ ((N / y : Nat) : Int) := Int.natCast_nonneg _; rw [Int.emod_eq_of_lt this (by omega), Int.emod_eq_of_lt this (by omega)]) (by rw [e2])
theorem Kn : ∀ (k n : Nat), (nf n).getD k 0 = n / 4294967296 ^ k % 4294967296
 | 0, n => by
  by_cases h : n = 0
  ·subst h; simp [Ef]
  ·rw [Gr h]; simp
 | k + 1, n => by
  by_cases h : n = 0
  ·subst h; simp [Ef]
  ·rw [Gr h, List.getD_cons_succ, Kn k, Nat.div_div_eq_div_mul, Nat.pow_succ, Nat.mul_comm 4294967296]
theorem Qfp {R p : Nat} : R / 4294967296 ^ p = R / 4294967296 ^ p % 4294967296 + 4294967296 * (R / 4294967296 ^ (p + 1)) := by
 rw [Nat.pow_succ, ← Nat.div_div_eq_div_mul]; omega
theorem Qmd {p : Nat} (h : R < 4294967296 ^ (p + 2)) : R / 4294967296 ^ p = (nf R).getD p 0 + 4294967296 * (nf R).getD (p + 1) 0 ∧ R / 4294967296 ^ p < 18446744073709551616 := by
 have h1 : R / 4294967296 ^ (p + 1) < 4294967296 := by
  rw [Nat.div_lt_iff_lt_mul (Nat.pow_pos (by omega)), Nat.mul_comm, ← Nat.pow_succ]; exact h
 have h2 := @Qfp R p
 rw [Kn, Kn, Nat.mod_eq_of_lt h1]
 exact ⟨h2, by omega⟩
theorem Qbi {top N : Nat} (hN : 0 < N) (ht : top * 4294967296 ^ (N - 1) ≤ V) (ht0 : 0 < top) (hR : R < V * 4294967296 ^ (j + 1)) :
  R / (V * 4294967296 ^ j) ≤ min (R / 4294967296 ^ (N + j - 1) / top) 4294967295 := by
 have hB : 0 < 4294967296 ^ (N - 1) := Nat.pow_pos (by omega)
 have hV : 0 < V := Nat.lt_of_lt_of_le (Nat.mul_pos ht0 hB) ht
 have hP : 0 < 4294967296 ^ j := Nat.pow_pos (by omega)
 have h1 : R / (V * 4294967296 ^ j) < 4294967296 := by
  rw [Nat.div_lt_iff_lt_mul (Nat.mul_pos hV hP)]; rw [Nat.pow_succ] at hR
  have e : 4294967296 * (V * 4294967296 ^ j) = V * (4294967296 ^ j * 4294967296) := by rw [Nat.mul_comm, Nat.mul_assoc]
  omega
 have h2 : R / (V * 4294967296 ^ j) ≤ R / 4294967296 ^ (N + j - 1) / top := by
  rw [Nat.le_div_iff_mul_le ht0, Nat.le_div_iff_mul_le (Nat.pow_pos (by omega))]
  have e1 : 4294967296 ^ (N + j - 1) = 4294967296 ^ (N - 1) * 4294967296 ^ j := by
   rw [← Nat.pow_add]; congr 1; omega
  have h3 := Nat.div_mul_le_self R (V * 4294967296 ^ j)
  have h4 : R / (V * 4294967296 ^ j) * top * 4294967296 ^ (N + j - 1) ≤ R / (V * 4294967296 ^ j) * (V * 4294967296 ^ j) := by
   rw [e1, Nat.mul_assoc, ← Nat.mul_assoc top]; exact Nat.mul_le_mul_left _ (Nat.mul_le_mul_right _ ht)
  omega
 omega
theorem P4 (hW : 0 < W) (h : R < g * W) : R / W ≤ g - 1 ∧ 0 < g := by
 have h1 : R / W < g := by rw [Nat.div_lt_iff_lt_mul hW]; exact h
 generalize R / W = q at *
 omega
theorem Pi (hW : 0 < W) (hg : R / W ≤ g) (h : g * W ≤ R) : g = R / W := by
 have : g ≤ R / W := by rw [Nat.le_div_iff_mul_le hW]; exact h
 generalize R / W = q at *
 omega
structure NDiv (A V k : Nat) (L : List Nat) (R : Nat) : Prop where
 eq : A = V * val L + R
 zero : ∀ i, i < k → L.getD i 0 = 0
 lt : R < V * 4294967296 ^ k
theorem NDiv.start {la lb : Nat} (hm : m < 4294967296 ^ la) (hn : 4294967296 ^ (lb - 1) ≤ n) (hlb : 0 < lb) (hle : lb ≤ la) (hc : c = la - lb + 1) : NDiv (m * 2 ^ s) (n * 2 ^ s) c (List.replicate c 0) (m * 2 ^ s) := by
 subst hc
 refine ⟨by rw [Dc]; simp, fun i _ => C3 _ _, ?_⟩
 have h1 : 4294967296 ^ la ≤ n * 4294967296 ^ (la - lb + 1) := by
  have e : 4294967296 ^ la = 4294967296 ^ (lb - 1) * 4294967296 ^ (la - lb + 1) := by
   rw [← Nat.pow_add]; congr 1; omega
  rw [e]; exact Nat.mul_le_mul_right _ hn
 rw [Nat.mul_right_comm]; exact Nat.mul_lt_mul_of_lt_of_le (Nat.lt_of_lt_of_le hm h1) (Nat.le_refl _) (Nat.pow_pos (by omega))
variable {L : List Nat}
theorem NDiv.step {A : Nat} (h : NDiv A V (j + 1) L R) (hj : j < L.length) (hV : 0 < V) (hg : g = R / (V * 4294967296 ^ j)) :
  NDiv A V j (L.set j g) (R - V * g * 4294967296 ^ j) ∧ g < 4294967296 ∧ V * g * 4294967296 ^ j ≤ R := by
 have hP : 0 < 4294967296 ^ j := Nat.pow_pos (by omega)
 have hW : 0 < V * 4294967296 ^ j := Nat.mul_pos hV hP
 have e0 : V * g * 4294967296 ^ j = V * 4294967296 ^ j * g := by rw [Nat.mul_right_comm]
 have hdm := Nat.div_add_mod R (V * 4294967296 ^ j)
 have hlt := Nat.mod_lt R hW
 rw [← hg] at hdm
 have hg2 : g < 4294967296 := by
  rw [hg, Nat.div_lt_iff_lt_mul hW]
  have := h.lt
  rw [Nat.pow_succ] at this
  have e : 4294967296 * (V * 4294967296 ^ j) = V * (4294967296 ^ j * 4294967296) := by rw [Nat.mul_comm, Nat.mul_assoc]
  omega
 refine ⟨⟨?_, fun i hi => ?_, ?_⟩, hg2, by omega⟩
 ·have h1 := Gz (L := L) (j := j) (c := g) hj (h.zero j (by omega))
  rw [h1, Nat.mul_add, ← Nat.mul_assoc, ← e0, Nat.mul_right_comm V g] at *
  have := h.eq
  have e2 : V * 4294967296 ^ j * g = V * (4294967296 ^ j * g) := Nat.mul_assoc _ _ _
  omega
 ·rw [Cq _ _ _ _ (by omega)]; exact h.zero i (by omega)
 ·omega
theorem NDiv.done (h : NDiv (m * 2 ^ s) (n * 2 ^ s) 0 L R) (hn : 0 < n) : val L = m / n ∧ R / 2 ^ s = m % n := by
 have hP : 0 < 2 ^ s := Nat.pow_pos (by omega)
 have hlt := h.lt
 rw [Nat.pow_zero, Nat.mul_one] at hlt
 have he := h.eq
 have h1 : m * 2 ^ s / (n * 2 ^ s) = val L := by
  rw [he, Nat.mul_add_div (Nat.mul_pos hn hP), Nat.div_eq_of_lt hlt, Nat.add_zero]
 have h2 : m * 2 ^ s % (n * 2 ^ s) = R := by
  rw [he, Nat.mul_add_mod, Nat.mod_eq_of_lt hlt]
 rw [Nat.mul_div_mul_right _ _ hP] at h1; rw [Nat.mul_mod_mul_right] at h2
 exact ⟨h1.symm, by rw [← h2, Nat.mul_div_cancel _ hP]⟩
def Off (g : Nat) (v : Value) : Prop := ∀ b off spot l c, v = .slice (some ⟨b, off, spot⟩) l c → b ≠ g
theorem Own.off {w : World} {base g : Nat} {v : Value} {l : List Nat} (h : Own w base v l) (hg : g < base) : Off g v := by
 intro b off spot l' c e
 rcases h.shape with ⟨rfl, _⟩ | ⟨g', cap, rfl, h1, h2, _⟩
 ·cases e
 ·injection e with e1 e2 e3
  injection e1 with e1
  injection e1 with e1
  omega
variable {v : Value}
theorem Own.off2 {base : Nat} {l : List Nat} (h : Own w base v l) (hg : w.heap.size ≤ g) : Off g v := by
 intro b off spot l' c e
 rcases h.shape with ⟨rfl, _⟩ | ⟨g', cap, rfl, h1, h2, _⟩
 ·cases e
 ·injection e with e1 e2 e3
  injection e1 with e1
  injection e1 with e1
  omega
theorem Rd.setOff {W : World} {l : List Nat} {x : Value} (h : Rd W v l) (ho : Off g v) : Rd (W.setCell ⟨g, j, none⟩ x) v l := by
 obtain ⟨a, cap, rfl, h1, h2, h3, h4⟩ := h
 refine ⟨a, cap, rfl, h1, h2, h3, fun h0 => ?_⟩
 obtain ⟨b, off, rfl, hcell⟩ := h4 h0
 have := ho b off none _ _ rfl
 refine ⟨b, off, rfl, fun i hi => ?_⟩
 rw [World.cell?_setCell_other _ _ _ _ (fun e => this (by injection e with e1; exact e1.symm))]; exact hcell i hi
theorem Rd.len {a : Option Addr} (h : Rd w (.slice a l c) L) : l = L.length := by
 obtain ⟨a', c', e, _⟩ := h
 injection e
theorem Rd.sl (h : Rd w v L) : ∃ a c, v = .slice a L.length c := by
 obtain ⟨a', c', e, _⟩ := h; exact ⟨a', c', e⟩
theorem Hv (w : World) (x : Int) (n : Nat) (hx : x = n) (hn : n < 18446744073709551616) :
  Calls Tryz.prog 100 #[.int .u64 x] w fun e w' => ∃ z, e = .returned z ∧ Own w' w.heap.size z (nf n) ∧ Below w.heap.size w w' := by
 subst hx; exact Jc w n hn
theorem Xn (w : World) (u v : Value) (m n : Nat) (hu : Rd w u (nf m)) (hv : Rd w v (nf n)) (hn0 : n ≠ 0) (hle : n ≤ m) (hlm : (nf m).length ≤ 200000) :
  Calls Tryz.prog 149 #[u, v] w fun e w' => ∃ z r, e = .returned (.tuple #[z, r]) ∧ Own w' w.heap.size z (nf (m / n)) ∧ Own w' w.heap.size r (nf (m % n)) ∧ Below w.heap.size w w' := by
 have hNM := D4 hle
 have hp := Bw hn0
 have htop := An (B9 n) ((nf n).length - 1)
 obtain ⟨s, hs⟩ : ∃ s, s = 32 - blen ((nf n).getD ((nf n).length - 1) 0) := ⟨_, rfl⟩; obtain ⟨s1, sb, s2, s3, s4⟩ := Yt hn0 rfl rfl hs; have hsi : (32 : Int) - (blen ((nf n).getD ((nf n).length - 1) 0) : Int) = (s : Int) := (by omega); obtain ⟨y1, y2⟩ := Xf s2 s3 s4
 have hLA := Fq w u m s hu (by omega) (by omega)
 have hLB := Fq w v n s hv (by omega) (by omega)
 have CA := Lib.hid (fun (w' : World) (hb : Below w.heap.size w w') => Fq w' u m s (hu.keep hb) (by omega) (by omega)); have CB := Lib.hid hLB
 have hlz := fun w => Qu w ((nf n).getD ((nf n).length - 1) 0) htop
 rw [hsi] at hlz; have HLZ := Lib.hid hlz
 have hst := NDiv.start (m := m) (n := n) (s := s) (la := (nf m).length) (lb := (nf n).length) (c := (nf m).length - (nf n).length + 1) (Eh (Nat.le_refl _)) (by
  have h1 := Dt (nf n) ((nf n).length - 1) (by omega)
  rw [Ck _ ((nf n).length - 1) (by omega), Ah] at h1
  have h2 := Ic n hn0
  have h3 : 4294967296 ^ ((nf n).length - 1) * 1 ≤ 4294967296 ^ ((nf n).length - 1) * ((nf n).getD ((nf n).length - 1) 0 + 4294967296 * val (List.drop ((nf n).length - 1 + 1) (nf n))) := Nat.mul_le_mul_left _ (by omega)
  omega) hp hNM rfl
 have HST := Lib.hid hst; have HDONE := Lib.hid (fun L R (h : NDiv (m * 2 ^ s) (n * 2 ^ s) 0 L R) => h.done (Nat.pos_of_ne_zero hn0)); have HV0 := Lib.hid (Nat.mul_pos (Nat.pos_of_ne_zero hn0) (show 0 < 2 ^ s from Nat.pow_pos (by omega)))
 have HT := Lib.hid (show ∃ t, (nf (n * 2 ^ s)).getD ((nf n).length - 1) 0 = t ∧ 0 < t ∧ t < 4294967296 ∧ t * 4294967296 ^ ((nf n).length - 1) ≤ n * 2 ^ s from ⟨_, rfl, by omega, An (B9 _) _, by
  have h1 := Dt (nf (n * 2 ^ s)) ((nf n).length - 1) (by omega)
  rw [Ck _ ((nf n).length - 1) (by omega), Ah, List.drop_eq_nil_of_le (by omega), Ay, Nat.mul_zero, Nat.add_zero, Nat.mul_comm (4294967296 ^ _)] at h1
  omega⟩)
 obtain ⟨top, htv, ht0, ht1, ht2⟩ := HT.out; have HTV := Lib.hid htv; have HT2 := Lib.hid ht2; have HVB := Lib.hid s3; have HLR := Lib.hid (show (nf (m * 2 ^ s)).length ≤ (nf m).length + 1 from Nat.le_trans (Qlz (Nat.le_refl _)) (by omega)); have HY1 := Lib.hid y1; obtain ⟨a1, c1, rfl⟩ := hu.sl; obtain ⟨b1, c2, rfl⟩ := hv.sl; obtain ⟨_, _, e2, hcb, hcbm, _, hrb⟩ := hv; obtain ⟨bb, offb, e3, hcell⟩ := hrb (by omega)
 injection e2 with e2 e4 e5
 subst e2 e5 e3
 have c0 := hcell ((nf n).length - 1) (by omega)
 obtain ⟨_, _, e2, hca, hcam, _, _⟩ := hu
 injection e2 with e2 e4 e5
 subst e2 e5
 clear HT hst hLA hLB hlz y1 y2 s2 s3 hs hsi hcell hrb htv ht2 e4 sb
 generalize (nf n).getD ((nf n).length - 1) 0 = x0, (nf m).length = la, hNe : (nf n).length = N at *
 clear hNe
 generalize hAe : m * 2 ^ s = A, hVe : n * 2 ^ s = V at *
 clear hAe hVe
 generalize hJ : la - N + 1 = J at *
 have hJi : (la : Int) - (N : Int) + 1 = (J : Int) := (by omega); have HJ := Lib.hid hJ; clear hJ; go_enter Tryz.func149, Tryz.ntmps149; go_wp2_with fail
 refine (HLZ.out _).mono ?_
 rintro e w1 ⟨rfl, rfl⟩
 go_wp2_with fail
 refine CB.out.mono ?_
 rintro e w1 ⟨z, rfl, hz, hB1⟩
 go_wp2_with fail
 refine (CA.out w1 hB1).mono ?_
 rintro e w2 ⟨r0, rfl, hr0, hB2⟩
 have hzr := hz.rd.keep hB2
 have HZN := Lib.hid (show Nn w2 z V 1000000 from ⟨hzr, by rw [HY1.out]; omega⟩)
 obtain ⟨av, cv, rfl⟩ := hzr.sl; obtain ⟨ar, cr, rfl⟩ := hr0.rd.sl; obtain ⟨_, _, e2, hcv, hcvm, _, hrv⟩ := hzr
 obtain ⟨bv, offv, e3, hcellv⟩ := hrv (by rw [HY1.out]; omega)
 injection e2 with e2 e4 e5
 subst e2 e5 e3
 have ct := hcellv (N - 1) (by rw [HY1.out]; omega)
 rw [HTV.out] at ct
 have hlv : (nf V).length = N := HY1.out
 have HLV := Lib.hid (show ∀ W : Nat, W = V → (nf W).length ≤ 200000 by rintro W rfl; rw [HY1.out]; omega)
 have HRO := Lib.hid (hr0.off2 (Nat.le_refl _)); have HRR := Lib.hid hr0.rd; have HB2 := Lib.hid (Ar hB1 hB2)
 generalize (nf V).length = lv at *
 subst hlv; clear hcellv hrv hz e4 CA CB HLZ hr0
 have hJ1 : 1 ≤ J := by have := HJ.out; omega
 have hJ2 : J ≤ 200001 := by have := HJ.out; omega
 clear hJi hle hn0 e4
 have hJi : (la : Int) - (lv : Int) + 1 = (J : Int) := by have := HJ.out; omega
 go_wp2_with (at_make; go_loud (refine Dg _ rfl (.tmp 41) (.tmp 41) 25 rfl Tryz.underlying25 _ _ J rfl rfl (by omega) (by omega) (by omega) ?_); intro w3 R0 B0; clear hJi)
 go_loopw [8, 11] (fun r i wr => ∃ (k R : Nat) (L : List Nat) (xr : Option Addr) (lr zr : Nat), r = .slice xr lr zr ∧ i = .int .i64 ((k : Int) - 1) ∧ k ≤ J ∧ Row wr w2.heap.size w2.heap.size J L ∧ Hid (L.length = J) ∧ Below w2.heap.size w2 wr ∧
   Hid (Rd wr (.slice xr lr zr) (nf R)) ∧ Hid (Off w2.heap.size (.slice xr lr zr)) ∧ Hid ((nf R).length ≤ la + 1) ∧ Hid (NDiv A V k L R)) (fun _ i _ => (intOf i + 1).toNat)
 case atStart => exact ⟨J, A, _, _, _, _, rfl, rfl, Nat.le_refl _, R0, by show _ = _; simp, B0, HRR.out.keep B0, HRO.out, HLR.out, HST.out⟩
 case round =>
  obtain ⟨k, R, L, xr, lr, zr, rfl, rfl, hk, hR, hL, hB, hRd, hOff, hRl, hN⟩ := hrel; clear HRR HRO HLR HST R0 B0
  have hRow := hR.lt
  have hRc := hR.cap
  have ctr := hB.cell (p := ⟨bv, offv + (lv - 1), none⟩) (El ct)
  rw [ct] at ctr
  by_cases hk1 : 1 ≤ k
  ·obtain ⟨j, rfl⟩ : ∃ j, k = j + 1 := ⟨k - 1, by omega⟩
   have hlr := hRd.out.len
   have hRb : R < 4294967296 ^ (lv + j - 1 + 2) := by
    have h1 := hN.out.lt
    have h2 := HVB.out
    have h3 : 4294967296 ^ (lv + j - 1 + 2) = 4294967296 ^ lv * 4294967296 ^ (j + 1) := by rw [← Nat.pow_add]; congr 1; omega
    rw [h3]; exact Nat.lt_of_lt_of_le h1 (Nat.mul_le_mul_right _ (Nat.le_of_lt h2))
   obtain ⟨hF, hF2⟩ := Qmd hRb
   have hGe := Qbi (j := j) hp HT2.out ht0 hN.out.lt
   generalize hFF : R / 4294967296 ^ (lv + j - 1) = F at *
   have hW : 0 < V * 4294967296 ^ j := Nat.mul_pos HV0.out (Nat.pow_pos (by omega))
   have HW := Lib.hid hW; obtain ⟨g0, hg0⟩ : ∃ g0, g0 = min (F / top) 4294967295 := ⟨_, rfl⟩; rw [← hg0] at hGe; have HGE := Lib.hid hGe
   have q0 : (F : Int) / (top : Int) = ((F / top : Nat) : Int) := (Int.natCast_ediv _ _).symm
   have hmin : min ((F : Int) / (top : Int)) 4294967295 = (g0 : Int) := by rw [q0, hg0]; omega
   have q1 : (0 : Int) ≤ (F : Int) / (top : Int) := by rw [q0]; exact Int.natCast_nonneg _
   have q2 : (F : Int) / (top : Int) < 18446744073709551616 := by rw [q0]; have : F / top ≤ F := Nat.div_le_self _ _; omega
   have hg1 : g0 < 4294967296 := (by omega); have ht3 : (1 : Int) ≤ (top : Int) := (by omega)
   have ht4 : ((top : Int) == 0) = false := by rw [beq_eq_false_iff_ne]; omega
   have HMIN := Lib.hid hmin
   have HG0 := Lib.hid (show F = 0 → g0 ≤ 0 by intro h; rw [hg0, h, Nat.zero_div]; exact Nat.min_le_left _ _)
   have HF := Lib.hid hF; have hF3 : (F : Int) < 18446744073709551616 := (by omega); obtain ⟨_, _, e2, hcr, hcrm, _, hrr⟩ := hRd.out
   injection e2 with e2 e4 e5
   subst e2 e5
   have b0 : (0 : Int) ≤ (lv : Int) + (j : Int) := (by omega); have b1 : (0 : Int) ≤ (lv : Int) + (j : Int) - 1 := (by omega); have en : ((lv : Int) + (j : Int) - 1).toNat = lv + j - 1 := (by omega); have en2 : ((lv : Int) + (j : Int)).toNat = lv + j := (by omega); have hFF := Lib.hid hFF; have Q1 := Lib.hid q1; have Q2 := Lib.hid q2; have HF2 := Lib.hid hF2; clear hFF hF hF2 hRb hW q0 hg0 hGe hmin q1 q2 hF3 e4; have HLR := Lib.hid hlr
   rcases Nat.lt_or_ge (lv + j) lr with hA | hA
   ·obtain ⟨br, offr, rfl, hcl⟩ := hrr (by omega)
    have r0 := hcl (lv + j - 1) (by omega)
    have r1 := hcl (lv + j) (by omega)
    have d0 := An (B9 R) (lv + j - 1)
    have d1 := An (B9 R) (lv + j)
    have hF := HF.out
    rw [show lv + j - 1 + 1 = lv + j by omega] at hF
    generalize (nf R).getD (lv + j - 1) 0 = x, (nf R).getD (lv + j) 0 = y at *
    have HO := Lib.hid (Ii x y d0 d1); have HXY := Lib.hid (show ((x + 4294967296 * y : Nat) : Int) = (F : Int) by rw [hF]); have c1 : (lv : Int) + (j : Int) < (lr : Int) := (by omega); have c2 : (lv : Int) + (j : Int) - 1 < (lr : Int) := (by omega); clear hcl hrr hlr hF; go_wp2_with fail
    go_quiet (fail)
    rw [HO.out, HXY.out]; obtain ⟨wx, hwx⟩ : ∃ wx, wx = wr.drewN nq := ⟨_, rfl⟩; rw [← hwx]
    have BX := Lib.hid (show Below wr.heap.size wr wx by rw [hwx]; exact Be (Below.refl _ _) _)
    clear hwx r0 r1 ctr c1 c2
    have hmin := HMIN.out
    have q1 := Q1.out
    have q2 := Q2.out
    have RX := Lib.hid (hR.keep BX.out); have RDX := Lib.hid (hRd.out.keep BX.out); have B2X := Lib.hid (hB.trans (BX.out.mono hB.size)); have RVX := Lib.hid (HZN.out.1.keep B2X.out); have HSZ := Lib.hid (Nat.lt_of_lt_of_le hRow.2 BX.out.size); go_wp2_with fail; clear hmin q1 q2 ht3 ht4
    refine (Hv _ _ g0 (by omega) (by omega)).mono ?_
    rintro e wa ⟨zw, rfl, hzw, bA⟩
    have hlv3 := Nat.le_trans hNM hlm
    have hPA := Hq _ _ _ _ _ (RVX.out.keep bA) hzw.rd (Nat.le_trans (HLV.out V rfl) (by omega)) (Nat.le_trans (Bi (k := 1) (by omega)) (by omega))
    rw [Ah, Ah] at hPA; have HPA := Lib.hid hPA; have BA := Lib.hid bA; clear hPA hzw bA; go_wp2_with fail
    refine HPA.out.mono ?_
    rintro e wb ⟨zp, rfl, hzp, bB⟩
    have BB := Lib.hid bB; have HZP := Lib.hid hzp; clear bB hzp HPA; go_wp2_with fail
    rw [show (32 : Int) * (j : Int) = ((32 * j : Nat) : Int) by omega]
    refine (Fq _ _ (V * g0) (32 * j) HZP.out.rd (Nat.le_trans (F3 (HLV.out V rfl) (Bi (k := 1) (by omega)) (Nat.le_refl _)) (by omega)) (by omega)).mono ?_
    rintro e wc ⟨zs, rfl, hzs, bC⟩
    have HP0 := Lib.hid (show V * g0 * 2 ^ (32 * j) = V * g0 * 4294967296 ^ j by rw [show (4294967296 : Nat) = 2 ^ 32 by decide, ← Nat.pow_mul]); rw [HP0.out] at hzs; have HOS := Lib.hid (hzs.off (g := w2.heap.size) (Nat.lt_of_lt_of_le HSZ.out (Nat.le_trans BA.out.size BB.out.size))); have HZS := Lib.hid hzs.rd; have BXC := Lib.hid (Ar (Ar BA.out BB.out) bC); obtain ⟨xs, cs, rfl⟩ := hzs.rd.sl; clear hzs bC HP0 HZP BA BB
    generalize (nf (V * g0 * 4294967296 ^ j)).length = ls0 at *
    go_wp2_with fail
    go_loopw [14, 15] (fun gs ps wy => ∃ (g lp cp : Nat) (xp : Option Addr), gs = .int .u64 (g : Int) ∧ ps = .slice xp lp cp ∧ g < 4294967296 ∧ Hid (R / (V * 4294967296 ^ j) ≤ g) ∧ Hid (Rd wy (.slice xp lp cp) (nf (V * g * 4294967296 ^ j))) ∧ Hid (Off w2.heap.size (.slice xp lp cp)) ∧ Hid (Below wx.heap.size wx wy)) (fun gs _ _ => (intOf gs).toNat)
    case atStart => exact ⟨g0, _, _, _, (by first | rfl | go_num), rfl, hg1, HGE.out, HZS.out, HOS.out, BXC.out⟩
    case round =>
     obtain ⟨g, lp, cp, xp, rfl, rfl, hg, HGQ, HRP, HOP, BXY⟩ := hrel; clear HZS HOS BXC HGE; go_wp2_with fail
     refine (Nh _ _ _ _ _ HRP.out (RDX.out.keep BXY.out)).mono ?_
     rintro e wd ⟨rfl, bD⟩
     have BXD := Lib.hid (Ar BXY.out bD); have HRP2 := Lib.hid (HRP.out.keep bD); clear bD
     by_cases hgt : R < V * g * 4294967296 ^ j
     ·have hcmp := Fx hgt
      have hdn := P4 HW.out (by rw [Nat.mul_comm g, Nat.mul_right_comm]; exact hgt)
      have HDN := Lib.hid hdn.1
      have hg2 := hdn.2
      clear hdn hgt; rw [hcmp]; clear hcmp; go_wp2_with fail
      rw [show (g : Int) - 1 = ((g - 1 : Nat) : Int) by omega]
      refine (Jc _ (g - 1) (by omega)).mono ?_
      rintro e we ⟨zw, rfl, hzw, bA⟩
      have hPA := Hq _ _ _ _ _ ((RVX.out.keep BXD.out).keep bA) hzw.rd (Nat.le_trans (HLV.out V rfl) (by omega)) (Nat.le_trans (Bi (k := 1) (by omega)) (by omega))
      rw [Ah, Ah] at hPA; have HPA := Lib.hid hPA; have BA := Lib.hid bA; clear hPA hzw bA; go_wp2_with fail
      refine HPA.out.mono ?_
      rintro e wf ⟨zp, rfl, hzp, bB⟩
      have BB := Lib.hid bB; have HZP := Lib.hid hzp; clear bB hzp HPA; go_wp2_with fail
      rw [show (32 : Int) * (j : Int) = ((32 * j : Nat) : Int) by omega]
      refine (Fq _ _ (V * (g - 1)) (32 * j) HZP.out.rd (Nat.le_trans (F3 (HLV.out V rfl) (Bi (k := 1) (by omega)) (Nat.le_refl _)) (by omega)) (by omega)).mono ?_
      rintro e wg ⟨zs, rfl, hzs, bC⟩
      have HP0 := Lib.hid (show V * (g - 1) * 2 ^ (32 * j) = V * (g - 1) * 4294967296 ^ j by rw [show (4294967296 : Nat) = 2 ^ 32 by decide, ← Nat.pow_mul]); rw [HP0.out] at hzs; have HOS := Lib.hid (hzs.off (g := w2.heap.size) (Nat.lt_of_lt_of_le HSZ.out (Nat.le_trans BXD.out.size (Nat.le_trans BA.out.size BB.out.size)))); have HZS := Lib.hid hzs.rd; have BXG := Lib.hid (Ar BXD.out (Ar (Ar BA.out BB.out) bC)); obtain ⟨xs2, cs2, rfl⟩ := hzs.rd.sl; clear hzs bC HP0 HZP BA BB
      generalize (nf (V * (g - 1) * 4294967296 ^ j)).length = ls2 at *
      go_wp2_with fail
      go_roundw
      case rel => exact ⟨g - 1, _, _, _, by go_num, rfl, by omega, HDN.out, HZS.out, HOS.out, BXG.out⟩
      case measure => simp [intOf]; omega
     ·have hcmp : ¬ (0 < Av (V * g * 4294967296 ^ j) R) := by
       unfold Av; rw [if_neg hgt]
       split <;> omega
      have hgq := Pi HW.out HGQ.out (by rw [Nat.mul_comm g, Nat.mul_right_comm]; omega)
      have HSTEP := Lib.hid (hN.out.step (by rw [hL.out]; omega) HV0.out hgq)
      have HLE := Lib.hid (show V * g * 4294967296 ^ j ≤ R by omega); clear hgq hgt
      generalize Av (V * g * 4294967296 ^ j) R = cc at *
      have hcc : decide (0 < cc) = false := by simpa using hcmp
      have RD := Lib.hid (RX.out.keep BXD.out)
      have hRl2 := RD.out.lt
      have cR := RD.out.cell (j := j) (by rw [hL.out]; omega)
      have fR := RD.out.free j
      generalize L.getD j 0 = zz at *
      have RS := Lib.hid (RD.out.set j hg); have HRS := Lib.hid ((hRd.out.keep (Ar BX.out BXD.out)).setOff (j := j) (x := .int .u32 (g : Int)) hOff.out); have HPS := Lib.hid (HRP2.out.setOff (j := j) (x := .int .u32 (g : Int)) HOP.out)
      have hlen2 := D4 HLE.out
      have hLL := M4 _ _ _ _ _ HRS.out HPS.out hlen2 (by rw [Ah, Ah]; exact HLE.out) (Nat.le_trans hRl.out (by omega))
      rw [Ah, Ah] at hLL; have HLL := Lib.hid hLL; clear hLL hlen2; go_wp2_with fail
      refine HLL.out.mono ?_
      rintro e we ⟨z2, rfl, hz2, bE⟩
      have HZ2 := Lib.hid hz2.rd
      have HO2 := Lib.hid (hz2.off (g := w2.heap.size) (by simp only [World.size_setCell]; exact Nat.lt_of_lt_of_le HSZ.out BXD.out.size))
      have HRW := Lib.hid (RS.out.keep bE); have HBW := Lib.hid (((hB.trans (BX.out.mono hB.size)).trans (BXD.out.mono (Nat.le_of_lt HSZ.out))).setCell (p := ⟨w2.heap.size, j, none⟩) (Nat.le_refl _) (.int .u32 (g : Int))); have HBE := Lib.hid (HBW.out.trans (bE.mono HBW.out.size)); obtain ⟨x2, c3, rfl⟩ := hz2.rd.sl; clear hz2 bE HLL
      have HLS := Lib.hid (show (L.set j g).length = J by rw [List.length_set]; exact hL.out)
      generalize (nf (R - V * g * 4294967296 ^ j)).length = lz at *
      have HRL2 := Lib.hid (Nat.le_trans (D4 (Nat.sub_le R (V * g * 4294967296 ^ j))) hRl.out); go_wp2_with fail
      go_roundw
      case rel => exact ⟨j, R - V * g * 4294967296 ^ j, L.set j g, _, _, _, rfl, by go_num, by omega, HRW.out, HLS.out, HBE.out, HZ2.out, HO2.out, HRL2.out, HSTEP.out.1⟩
      case measure => simp [intOf]
   ·rcases Nat.lt_or_ge (lv + j - 1) lr with hA2 | hA2
    ·obtain ⟨br, offr, rfl, hcl⟩ := hrr (by omega)
     have r0 := hcl (lv + j - 1) (by omega)
     have hF := HF.out
     rw [Ka (k := lv + j - 1 + 1) (by rw [← HLR.out]; omega), Nat.mul_zero, Nat.add_zero] at hF
     have d0 := An (B9 R) (lv + j - 1)
     rw [← hF] at r0 d0; have c1 : ¬ ((lv : Int) + (j : Int) < (lr : Int)) := (by omega); have c2 : (lv : Int) + (j : Int) - 1 < (lr : Int) := (by omega); clear hcl hrr hlr hF; obtain ⟨wx, hwx⟩ : ∃ wx, wx = wr := ⟨_, rfl⟩; rw [← hwx]
     have BX := Lib.hid (show Below wr.heap.size wr wx by rw [hwx]; exact Below.refl _ _)
     rw [← hwx] at r0; clear hwx ctr
     have hmin := HMIN.out
     have q1 := Q1.out
     have q2 := Q2.out
     have RX := Lib.hid (hR.keep BX.out); have RDX := Lib.hid (hRd.out.keep BX.out); have B2X := Lib.hid (hB.trans (BX.out.mono hB.size)); have RVX := Lib.hid (HZN.out.1.keep B2X.out); have HSZ := Lib.hid (Nat.lt_of_lt_of_le hRow.2 BX.out.size); go_wp2_with fail; clear hmin q1 q2 ht3 ht4
     refine (Hv _ _ g0 (by omega) (by omega)).mono ?_
     rintro e wa ⟨zw, rfl, hzw, bA⟩
     have hlv3 := Nat.le_trans hNM hlm
     have hPA := Hq _ _ _ _ _ (RVX.out.keep bA) hzw.rd (Nat.le_trans (HLV.out V rfl) (by omega)) (Nat.le_trans (Bi (k := 1) (by omega)) (by omega))
     rw [Ah, Ah] at hPA; have HPA := Lib.hid hPA; have BA := Lib.hid bA; clear hPA hzw bA; go_wp2_with fail
     refine HPA.out.mono ?_
     rintro e wb ⟨zp, rfl, hzp, bB⟩
     have BB := Lib.hid bB; have HZP := Lib.hid hzp; clear bB hzp HPA; go_wp2_with fail
     rw [show (32 : Int) * (j : Int) = ((32 * j : Nat) : Int) by omega]
     refine (Fq _ _ (V * g0) (32 * j) HZP.out.rd (Nat.le_trans (F3 (HLV.out V rfl) (Bi (k := 1) (by omega)) (Nat.le_refl _)) (by omega)) (by omega)).mono ?_
     rintro e wc ⟨zs, rfl, hzs, bC⟩
     have HP0 := Lib.hid (show V * g0 * 2 ^ (32 * j) = V * g0 * 4294967296 ^ j by rw [show (4294967296 : Nat) = 2 ^ 32 by decide, ← Nat.pow_mul]); rw [HP0.out] at hzs; have HOS := Lib.hid (hzs.off (g := w2.heap.size) (Nat.lt_of_lt_of_le HSZ.out (Nat.le_trans BA.out.size BB.out.size))); have HZS := Lib.hid hzs.rd; have BXC := Lib.hid (Ar (Ar BA.out BB.out) bC); obtain ⟨xs, cs, rfl⟩ := hzs.rd.sl; clear hzs bC HP0 HZP BA BB
     generalize (nf (V * g0 * 4294967296 ^ j)).length = ls0 at *
     go_wp2_with fail
     go_loopw [14, 15] (fun gs ps wy => ∃ (g lp cp : Nat) (xp : Option Addr), gs = .int .u64 (g : Int) ∧ ps = .slice xp lp cp ∧ g < 4294967296 ∧ Hid (R / (V * 4294967296 ^ j) ≤ g) ∧ Hid (Rd wy (.slice xp lp cp) (nf (V * g * 4294967296 ^ j))) ∧ Hid (Off w2.heap.size (.slice xp lp cp)) ∧ Hid (Below wx.heap.size wx wy)) (fun gs _ _ => (intOf gs).toNat)
     case atStart => exact ⟨g0, _, _, _, (by first | rfl | go_num), rfl, hg1, HGE.out, HZS.out, HOS.out, BXC.out⟩
     case round =>
      obtain ⟨g, lp, cp, xp, rfl, rfl, hg, HGQ, HRP, HOP, BXY⟩ := hrel; clear HZS HOS BXC HGE; go_wp2_with fail
      refine (Nh _ _ _ _ _ HRP.out (RDX.out.keep BXY.out)).mono ?_
      rintro e wd ⟨rfl, bD⟩
      have BXD := Lib.hid (Ar BXY.out bD); have HRP2 := Lib.hid (HRP.out.keep bD); clear bD
      by_cases hgt : R < V * g * 4294967296 ^ j
      ·have hcmp := Fx hgt
       have hdn := P4 HW.out (by rw [Nat.mul_comm g, Nat.mul_right_comm]; exact hgt)
       have HDN := Lib.hid hdn.1
       have hg2 := hdn.2
       clear hdn hgt; rw [hcmp]; clear hcmp; go_wp2_with fail
       rw [show (g : Int) - 1 = ((g - 1 : Nat) : Int) by omega]
       refine (Jc _ (g - 1) (by omega)).mono ?_
       rintro e we ⟨zw, rfl, hzw, bA⟩
       have hPA := Hq _ _ _ _ _ ((RVX.out.keep BXD.out).keep bA) hzw.rd (Nat.le_trans (HLV.out V rfl) (by omega)) (Nat.le_trans (Bi (k := 1) (by omega)) (by omega))
       rw [Ah, Ah] at hPA; have HPA := Lib.hid hPA; have BA := Lib.hid bA; clear hPA hzw bA; go_wp2_with fail
       refine HPA.out.mono ?_
       rintro e wf ⟨zp, rfl, hzp, bB⟩
       have BB := Lib.hid bB; have HZP := Lib.hid hzp; clear bB hzp HPA; go_wp2_with fail
       rw [show (32 : Int) * (j : Int) = ((32 * j : Nat) : Int) by omega]
       refine (Fq _ _ (V * (g - 1)) (32 * j) HZP.out.rd (Nat.le_trans (F3 (HLV.out V rfl) (Bi (k := 1) (by omega)) (Nat.le_refl _)) (by omega)) (by omega)).mono ?_
       rintro e wg ⟨zs, rfl, hzs, bC⟩
       have HP0 := Lib.hid (show V * (g - 1) * 2 ^ (32 * j) = V * (g - 1) * 4294967296 ^ j by rw [show (4294967296 : Nat) = 2 ^ 32 by decide, ← Nat.pow_mul]); rw [HP0.out] at hzs; have HOS := Lib.hid (hzs.off (g := w2.heap.size) (Nat.lt_of_lt_of_le HSZ.out (Nat.le_trans BXD.out.size (Nat.le_trans BA.out.size BB.out.size)))); have HZS := Lib.hid hzs.rd; have BXG := Lib.hid (Ar BXD.out (Ar (Ar BA.out BB.out) bC)); obtain ⟨xs2, cs2, rfl⟩ := hzs.rd.sl; clear hzs bC HP0 HZP BA BB
       generalize (nf (V * (g - 1) * 4294967296 ^ j)).length = ls2 at *
       go_wp2_with fail
       go_roundw
       case rel => exact ⟨g - 1, _, _, _, by go_num, rfl, by omega, HDN.out, HZS.out, HOS.out, BXG.out⟩
       case measure => simp [intOf]; omega
      ·have hcmp : ¬ (0 < Av (V * g * 4294967296 ^ j) R) := by
        unfold Av; rw [if_neg hgt]
        split <;> omega
       have hgq := Pi HW.out HGQ.out (by rw [Nat.mul_comm g, Nat.mul_right_comm]; omega)
       have HSTEP := Lib.hid (hN.out.step (by rw [hL.out]; omega) HV0.out hgq)
       have HLE := Lib.hid (show V * g * 4294967296 ^ j ≤ R by omega); clear hgq hgt
       generalize Av (V * g * 4294967296 ^ j) R = cc at *
       have hcc : decide (0 < cc) = false := by simpa using hcmp
       have RD := Lib.hid (RX.out.keep BXD.out)
       have hRl2 := RD.out.lt
       have cR := RD.out.cell (j := j) (by rw [hL.out]; omega)
       have fR := RD.out.free j
       generalize L.getD j 0 = zz at *
       have RS := Lib.hid (RD.out.set j hg); have HRS := Lib.hid ((hRd.out.keep (Ar BX.out BXD.out)).setOff (j := j) (x := .int .u32 (g : Int)) hOff.out); have HPS := Lib.hid (HRP2.out.setOff (j := j) (x := .int .u32 (g : Int)) HOP.out)
       have hlen2 := D4 HLE.out
       have hLL := M4 _ _ _ _ _ HRS.out HPS.out hlen2 (by rw [Ah, Ah]; exact HLE.out) (Nat.le_trans hRl.out (by omega))
       rw [Ah, Ah] at hLL; have HLL := Lib.hid hLL; clear hLL hlen2; go_wp2_with fail
       refine HLL.out.mono ?_
       rintro e we ⟨z2, rfl, hz2, bE⟩
       have HZ2 := Lib.hid hz2.rd
       have HO2 := Lib.hid (hz2.off (g := w2.heap.size) (by simp only [World.size_setCell]; exact Nat.lt_of_lt_of_le HSZ.out BXD.out.size))
       have HRW := Lib.hid (RS.out.keep bE); have HBW := Lib.hid (((hB.trans (BX.out.mono hB.size)).trans (BXD.out.mono (Nat.le_of_lt HSZ.out))).setCell (p := ⟨w2.heap.size, j, none⟩) (Nat.le_refl _) (.int .u32 (g : Int))); have HBE := Lib.hid (HBW.out.trans (bE.mono HBW.out.size)); obtain ⟨x2, c3, rfl⟩ := hz2.rd.sl; clear hz2 bE HLL
       have HLS := Lib.hid (show (L.set j g).length = J by rw [List.length_set]; exact hL.out)
       generalize (nf (R - V * g * 4294967296 ^ j)).length = lz at *
       have HRL2 := Lib.hid (Nat.le_trans (D4 (Nat.sub_le R (V * g * 4294967296 ^ j))) hRl.out); go_wp2_with fail
       go_roundw
       case rel => exact ⟨j, R - V * g * 4294967296 ^ j, L.set j g, _, _, _, rfl, by go_num, by omega, HRW.out, HLS.out, HBE.out, HZ2.out, HO2.out, HRL2.out, HSTEP.out.1⟩
       case measure => simp [intOf]
    ·have c1 : ¬ ((lv : Int) + (j : Int) < (lr : Int)) := by omega
     have c2 : ¬ ((lv : Int) + (j : Int) - 1 < (lr : Int)) := (by omega)
     have hF := HF.out
     rw [Ka (k := lv + j - 1 + 1) (by rw [← HLR.out]; omega), Ka (k := lv + j - 1) (by rw [← HLR.out]; omega)] at hF
     have hg00 := HG0.out hF
     clear hrr hlr hF; obtain ⟨wx, hwx⟩ : ∃ wx, wx = wr := ⟨_, rfl⟩; rw [← hwx]
     have BX := Lib.hid (show Below wr.heap.size wr wx by rw [hwx]; exact Below.refl _ _)
     clear hwx ctr
     have hmin := HMIN.out
     have q1 := Q1.out
     have q2 := Q2.out
     have RX := Lib.hid (hR.keep BX.out); have RDX := Lib.hid (hRd.out.keep BX.out); have B2X := Lib.hid (hB.trans (BX.out.mono hB.size)); have RVX := Lib.hid (HZN.out.1.keep B2X.out); have HSZ := Lib.hid (Nat.lt_of_lt_of_le hRow.2 BX.out.size); go_wp2_with fail; clear hmin q1 q2 ht3 ht4
     refine (Hv _ _ g0 (by omega) (by omega)).mono ?_
     rintro e wa ⟨zw, rfl, hzw, bA⟩
     have hlv3 := Nat.le_trans hNM hlm
     have hPA := Hq _ _ _ _ _ (RVX.out.keep bA) hzw.rd (Nat.le_trans (HLV.out V rfl) (by omega)) (Nat.le_trans (Bi (k := 1) (by omega)) (by omega))
     rw [Ah, Ah] at hPA; have HPA := Lib.hid hPA; have BA := Lib.hid bA; clear hPA hzw bA; go_wp2_with fail
     refine HPA.out.mono ?_
     rintro e wb ⟨zp, rfl, hzp, bB⟩
     have BB := Lib.hid bB; have HZP := Lib.hid hzp; clear bB hzp HPA; go_wp2_with fail
     rw [show (32 : Int) * (j : Int) = ((32 * j : Nat) : Int) by omega]
     refine (Fq _ _ (V * g0) (32 * j) HZP.out.rd (Nat.le_trans (F3 (HLV.out V rfl) (Bi (k := 1) (by omega)) (Nat.le_refl _)) (by omega)) (by omega)).mono ?_
     rintro e wc ⟨zs, rfl, hzs, bC⟩
     have HP0 := Lib.hid (show V * g0 * 2 ^ (32 * j) = V * g0 * 4294967296 ^ j by rw [show (4294967296 : Nat) = 2 ^ 32 by decide, ← Nat.pow_mul]); rw [HP0.out] at hzs; have HOS := Lib.hid (hzs.off (g := w2.heap.size) (Nat.lt_of_lt_of_le HSZ.out (Nat.le_trans BA.out.size BB.out.size))); have HZS := Lib.hid hzs.rd; have BXC := Lib.hid (Ar (Ar BA.out BB.out) bC); obtain ⟨xs, cs, rfl⟩ := hzs.rd.sl; clear hzs bC HP0 HZP BA BB
     generalize (nf (V * g0 * 4294967296 ^ j)).length = ls0 at *
     go_wp2_with fail
     go_loopw [14, 15] (fun gs ps wy => ∃ (g lp cp : Nat) (xp : Option Addr), gs = .int .u64 (g : Int) ∧ ps = .slice xp lp cp ∧ g < 4294967296 ∧ Hid (R / (V * 4294967296 ^ j) ≤ g) ∧ Hid (Rd wy (.slice xp lp cp) (nf (V * g * 4294967296 ^ j))) ∧ Hid (Off w2.heap.size (.slice xp lp cp)) ∧ Hid (Below wx.heap.size wx wy)) (fun gs _ _ => (intOf gs).toNat)
     case atStart => exact ⟨g0, _, _, _, (by first | rfl | go_num), rfl, hg1, HGE.out, HZS.out, HOS.out, BXC.out⟩
     case round =>
      obtain ⟨g, lp, cp, xp, rfl, rfl, hg, HGQ, HRP, HOP, BXY⟩ := hrel; clear HZS HOS BXC HGE; go_wp2_with fail
      refine (Nh _ _ _ _ _ HRP.out (RDX.out.keep BXY.out)).mono ?_
      rintro e wd ⟨rfl, bD⟩
      have BXD := Lib.hid (Ar BXY.out bD); have HRP2 := Lib.hid (HRP.out.keep bD); clear bD
      by_cases hgt : R < V * g * 4294967296 ^ j
      ·have hcmp := Fx hgt
       have hdn := P4 HW.out (by rw [Nat.mul_comm g, Nat.mul_right_comm]; exact hgt)
       have HDN := Lib.hid hdn.1
       have hg2 := hdn.2
       clear hdn hgt; rw [hcmp]; clear hcmp; go_wp2_with fail
       rw [show (g : Int) - 1 = ((g - 1 : Nat) : Int) by omega]
       refine (Jc _ (g - 1) (by omega)).mono ?_
       rintro e we ⟨zw, rfl, hzw, bA⟩
       have hPA := Hq _ _ _ _ _ ((RVX.out.keep BXD.out).keep bA) hzw.rd (Nat.le_trans (HLV.out V rfl) (by omega)) (Nat.le_trans (Bi (k := 1) (by omega)) (by omega))
       rw [Ah, Ah] at hPA; have HPA := Lib.hid hPA; have BA := Lib.hid bA; clear hPA hzw bA; go_wp2_with fail
       refine HPA.out.mono ?_
       rintro e wf ⟨zp, rfl, hzp, bB⟩
       have BB := Lib.hid bB; have HZP := Lib.hid hzp; clear bB hzp HPA; go_wp2_with fail
       rw [show (32 : Int) * (j : Int) = ((32 * j : Nat) : Int) by omega]
       refine (Fq _ _ (V * (g - 1)) (32 * j) HZP.out.rd (Nat.le_trans (F3 (HLV.out V rfl) (Bi (k := 1) (by omega)) (Nat.le_refl _)) (by omega)) (by omega)).mono ?_
       rintro e wg ⟨zs, rfl, hzs, bC⟩
       have HP0 := Lib.hid (show V * (g - 1) * 2 ^ (32 * j) = V * (g - 1) * 4294967296 ^ j by rw [show (4294967296 : Nat) = 2 ^ 32 by decide, ← Nat.pow_mul]); rw [HP0.out] at hzs; have HOS := Lib.hid (hzs.off (g := w2.heap.size) (Nat.lt_of_lt_of_le HSZ.out (Nat.le_trans BXD.out.size (Nat.le_trans BA.out.size BB.out.size)))); have HZS := Lib.hid hzs.rd; have BXG := Lib.hid (Ar BXD.out (Ar (Ar BA.out BB.out) bC)); obtain ⟨xs2, cs2, rfl⟩ := hzs.rd.sl; clear hzs bC HP0 HZP BA BB
       generalize (nf (V * (g - 1) * 4294967296 ^ j)).length = ls2 at *
       go_wp2_with fail
       go_roundw
       case rel => exact ⟨g - 1, _, _, _, by go_num, rfl, by omega, HDN.out, HZS.out, HOS.out, BXG.out⟩
       case measure => simp [intOf]; omega
      ·have hcmp : ¬ (0 < Av (V * g * 4294967296 ^ j) R) := by
        unfold Av; rw [if_neg hgt]
        split <;> omega
       have hgq := Pi HW.out HGQ.out (by rw [Nat.mul_comm g, Nat.mul_right_comm]; omega)
       have HSTEP := Lib.hid (hN.out.step (by rw [hL.out]; omega) HV0.out hgq)
       have HLE := Lib.hid (show V * g * 4294967296 ^ j ≤ R by omega); clear hgq hgt
       generalize Av (V * g * 4294967296 ^ j) R = cc at *
       have hcc : decide (0 < cc) = false := by simpa using hcmp
       have RD := Lib.hid (RX.out.keep BXD.out)
       have hRl2 := RD.out.lt
       have cR := RD.out.cell (j := j) (by rw [hL.out]; omega)
       have fR := RD.out.free j
       generalize L.getD j 0 = zz at *
       have RS := Lib.hid (RD.out.set j hg); have HRS := Lib.hid ((hRd.out.keep (Ar BX.out BXD.out)).setOff (j := j) (x := .int .u32 (g : Int)) hOff.out); have HPS := Lib.hid (HRP2.out.setOff (j := j) (x := .int .u32 (g : Int)) HOP.out)
       have hlen2 := D4 HLE.out
       have hLL := M4 _ _ _ _ _ HRS.out HPS.out hlen2 (by rw [Ah, Ah]; exact HLE.out) (Nat.le_trans hRl.out (by omega))
       rw [Ah, Ah] at hLL; have HLL := Lib.hid hLL; clear hLL hlen2; go_wp2_with fail
       refine HLL.out.mono ?_
       rintro e we ⟨z2, rfl, hz2, bE⟩
       have HZ2 := Lib.hid hz2.rd
       have HO2 := Lib.hid (hz2.off (g := w2.heap.size) (by simp only [World.size_setCell]; exact Nat.lt_of_lt_of_le HSZ.out BXD.out.size))
       have HRW := Lib.hid (RS.out.keep bE); have HBW := Lib.hid (((hB.trans (BX.out.mono hB.size)).trans (BXD.out.mono (Nat.le_of_lt HSZ.out))).setCell (p := ⟨w2.heap.size, j, none⟩) (Nat.le_refl _) (.int .u32 (g : Int))); have HBE := Lib.hid (HBW.out.trans (bE.mono HBW.out.size)); obtain ⟨x2, c3, rfl⟩ := hz2.rd.sl; clear hz2 bE HLL
       have HLS := Lib.hid (show (L.set j g).length = J by rw [List.length_set]; exact hL.out)
       generalize (nf (R - V * g * 4294967296 ^ j)).length = lz at *
       have HRL2 := Lib.hid (Nat.le_trans (D4 (Nat.sub_le R (V * g * 4294967296 ^ j))) hRl.out); go_wp2_with fail
       go_roundw
       case rel => exact ⟨j, R - V * g * 4294967296 ^ j, L.set j g, _, _, _, rfl, by go_num, by omega, HRW.out, HLS.out, HBE.out, HZ2.out, HO2.out, HRL2.out, HSTEP.out.1⟩
       case measure => simp [intOf]
  ·obtain rfl : k = 0 := by omega
   have HD := Lib.hid (HDONE.out _ _ hN.out)
   have hRow2 : Own wr w2.heap.size (.slice (some ⟨w2.heap.size, 0, none⟩) J J) L := by
    have := hR
    unfold Row at this; rw [hL.out] at this; exact this
   have HRW := Lib.hid hRow2; clear hRow2; go_wp2_with fail
   refine (Eg _ _ _ _ HRW.out).mono ?_
   rintro e wa ⟨z, rfl, hz, rfl⟩
   have HZ := Lib.hid hz; clear hz; go_wp2_with fail
   refine (Qaf _ _ R s hRd.out (Nat.le_trans hRl.out (by omega)) (by omega)).mono ?_
   rintro e wb ⟨z2, rfl, hz2, bB⟩
   go_wp2; go_ret2
   have hz2' := hz2
   rw [HD.out.2] at hz2'
   have hz' := HZ.out
   rw [HD.out.1] at hz'
   have hsz := HB2.out.size
   refine ⟨_, _, rfl, (hz'.keep bB).mono hsz, hz2'.mono (Nat.le_trans hsz hB.size), ?_⟩
   exact (HB2.out.trans (hB.mono hsz)).trans (bB.mono (Nat.le_trans hsz hB.size))
end Go.Proofs.YtpnpnlmlamfpmaaGreatDoor
