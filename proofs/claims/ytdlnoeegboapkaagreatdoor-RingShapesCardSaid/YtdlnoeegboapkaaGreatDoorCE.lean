/-
  Texts of this claim, joined: NumDiv, NumDiv2, Call.
-/
import Derived.Test.YtdlnoeegboapkaaGreatDoorCD
import Derived.Test.YtdlnoeegboapkaaGreatDoorCA
import Derived.Deep.AppendLies
namespace Go.Proofs.YtdlnoeegboapkaaGreatDoor
open Go.RowKit
set_option maxHeartbeats 40000000
set_option maxRecDepth 100000
set_option synthInstance.maxHeartbeats 1000000
set_option synthInstance.maxSize 100000
section
theorem div32W {w : World} {h l y : Nat} (hhy : h < y) (hl : l < 4294967296) (hy : y < 4294967296) :
    Calls Tryz.prog 198 #[.int .u32 (h : Int), .int .u32 (l : Int), .int .u32 (y : Int)] w fun e w' => e = .returned (.tuple #[.int .u32 (((l + 4294967296 * h) / y : Nat) : Int), .int .u32 (((l + 4294967296 * h) % y : Nat) : Int)]) ∧ ∃ j, w' = w.drewN j := by
  have ho := Lib.hid (high_or l h hl (by omega))
  have hq : (l + 4294967296 * h) / y < 4294967296 := by
    rw [Nat.div_lt_iff_lt_mul (by omega)]
    have : 4294967296 * (h + 1) ≤ 4294967296 * y := Nat.mul_le_mul_left _ hhy
    omega
  have hr : (l + 4294967296 * h) % y < y := Nat.mod_lt _ (by omega)
  have b1 : ((y : Int) != 0) = true := by rw [bne_iff_ne]; omega
  have b2 : decide ((y : Int) ≤ (h : Int)) = false := by simp; omega
  go_enter Tryz.func198, Tryz.ntmps198; go_wp2; rw [ho.out]; have hN : l + 4294967296 * h < 18446744073709551616 := (by omega)
  generalize hNe : l + 4294967296 * h = N at *
  have HNE := Lib.hid hNe; clear hNe; clear b1 b2; have hy1 : (1 : Int) ≤ (y : Int) := (by omega)
  have hy0 : ((y : Int) == 0) = false := by rw [beq_eq_false_iff_ne]; omega
  have hyz : ¬ (y = 0) := (by omega)
  go_quiet (fail)
  go_wp2; go_ret2
  refine ⟨?_, _, rfl⟩
  rw [HNE.out]
  have e1 : (N : Int) / (y : Int) = ((N / y : Nat) : Int) := (Int.natCast_ediv _ _).symm
  have e2 : (N : Int) % (y : Int) = ((N % y : Nat) : Int) := (Int.natCast_emod _ _).symm
  exact two_eq (by rw [e1, IntKind.wrap_u64]; have : (0:Int) ≤ ((N / y : Nat) : Int) := Int.natCast_nonneg _; rw [Int.emod_eq_of_lt this (by omega), Int.emod_eq_of_lt this (by omega)]) (by rw [e2])
theorem nf_getD : ∀ (k n : Nat), (nf n).getD k 0 = n / 4294967296 ^ k % 4294967296
  | 0, n => by
    by_cases h : n = 0
    · subst h; simp [nf_zero]
    · rw [nf_pos h]; simp
  | k + 1, n => by
    by_cases h : n = 0
    · subst h; simp [nf_zero]
    · rw [nf_pos h, List.getD_cons_succ, nf_getD k, Nat.div_div_eq_div_mul, Nat.pow_succ, Nat.mul_comm 4294967296]
theorem div_two {R p : Nat} : R / 4294967296 ^ p = R / 4294967296 ^ p % 4294967296 + 4294967296 * (R / 4294967296 ^ (p + 1)) := by
  rw [Nat.pow_succ, ← Nat.div_div_eq_div_mul]; omega
theorem lead_two {R p : Nat} (h : R < 4294967296 ^ (p + 2)) : R / 4294967296 ^ p = (nf R).getD p 0 + 4294967296 * (nf R).getD (p + 1) 0 ∧ R / 4294967296 ^ p < 18446744073709551616 := by
  have h1 : R / 4294967296 ^ (p + 1) < 4294967296 := by
    rw [Nat.div_lt_iff_lt_mul (Nat.pow_pos (by omega)), Nat.mul_comm, ← Nat.pow_succ]; exact h
  have h2 := @div_two R p
  rw [nf_getD, nf_getD, Nat.mod_eq_of_lt h1]
  exact ⟨h2, by omega⟩
theorem guess_ge {R V top j N : Nat} (hN : 0 < N) (ht : top * 4294967296 ^ (N - 1) ≤ V) (ht0 : 0 < top) (hR : R < V * 4294967296 ^ (j + 1)) :
    R / (V * 4294967296 ^ j) ≤ min (R / 4294967296 ^ (N + j - 1) / top) 4294967295 := by
  have hB : 0 < 4294967296 ^ (N - 1) := Nat.pow_pos (by omega)
  have hV : 0 < V := Nat.lt_of_lt_of_le (Nat.mul_pos ht0 hB) ht
  have hP : 0 < 4294967296 ^ j := Nat.pow_pos (by omega)
  have h1 : R / (V * 4294967296 ^ j) < 4294967296 := by
    rw [Nat.div_lt_iff_lt_mul (Nat.mul_pos hV hP)]; rw [Nat.pow_succ] at hR
    have e : 4294967296 * (V * 4294967296 ^ j) = V * (4294967296 ^ j * 4294967296) := by rw [Nat.mul_comm, Nat.mul_assoc]
    omega
  have h2 : R / (V * 4294967296 ^ j) ≤ R / 4294967296 ^ (N + j - 1) / top := by
    rw [Nat.le_div_iff_mul_le ht0, Nat.le_div_iff_mul_le (Nat.pow_pos (by omega))]
    have e1 : 4294967296 ^ (N + j - 1) = 4294967296 ^ (N - 1) * 4294967296 ^ j := by
      rw [← Nat.pow_add]; congr 1; omega
    have h3 := Nat.div_mul_le_self R (V * 4294967296 ^ j)
    have h4 : R / (V * 4294967296 ^ j) * top * 4294967296 ^ (N + j - 1) ≤ R / (V * 4294967296 ^ j) * (V * 4294967296 ^ j) := by
      rw [e1, Nat.mul_assoc, ← Nat.mul_assoc top]; exact Nat.mul_le_mul_left _ (Nat.mul_le_mul_right _ ht)
    omega
  omega
theorem guess_down {R W g : Nat} (hW : 0 < W) (h : R < g * W) : R / W ≤ g - 1 ∧ 0 < g := by
  have h1 : R / W < g := by rw [Nat.div_lt_iff_lt_mul hW]; exact h
  generalize R / W = q at *
  omega
theorem guess_done {R W g : Nat} (hW : 0 < W) (hg : R / W ≤ g) (h : g * W ≤ R) : g = R / W := by
  have : g ≤ R / W := by rw [Nat.le_div_iff_mul_le hW]; exact h
  generalize R / W = q at *
  omega
structure NDiv (A V k : Nat) (L : List Nat) (R : Nat) : Prop where
  eq : A = V * val L + R
  zero : ∀ i, i < k → L.getD i 0 = 0
  lt : R < V * 4294967296 ^ k
theorem NDiv.start {m n s la lb c : Nat} (hm : m < 4294967296 ^ la) (hn : 4294967296 ^ (lb - 1) ≤ n) (hlb : 0 < lb) (hle : lb ≤ la) (hc : c = la - lb + 1) : NDiv (m * 2 ^ s) (n * 2 ^ s) c (List.replicate c 0) (m * 2 ^ s) := by
  subst hc
  refine ⟨by rw [val_replicate]; simp, fun i _ => getD_replicate _ _, ?_⟩
  have h1 : 4294967296 ^ la ≤ n * 4294967296 ^ (la - lb + 1) := by
    have e : 4294967296 ^ la = 4294967296 ^ (lb - 1) * 4294967296 ^ (la - lb + 1) := by
      rw [← Nat.pow_add]; congr 1; omega
    rw [e]; exact Nat.mul_le_mul_right _ hn
  rw [Nat.mul_right_comm]; exact Nat.mul_lt_mul_of_lt_of_le (Nat.lt_of_lt_of_le hm h1) (Nat.le_refl _) (Nat.pow_pos (by omega))
theorem NDiv.step {A V j : Nat} {L : List Nat} {R g : Nat} (h : NDiv A V (j + 1) L R) (hj : j < L.length) (hV : 0 < V) (hg : g = R / (V * 4294967296 ^ j)) :
    NDiv A V j (L.set j g) (R - V * g * 4294967296 ^ j) ∧ g < 4294967296 ∧ V * g * 4294967296 ^ j ≤ R := by
  have hP : 0 < 4294967296 ^ j := Nat.pow_pos (by omega)
  have hW : 0 < V * 4294967296 ^ j := Nat.mul_pos hV hP
  have e0 : V * g * 4294967296 ^ j = V * 4294967296 ^ j * g := by rw [Nat.mul_right_comm]
  have hdm := Nat.div_add_mod R (V * 4294967296 ^ j)
  have hlt := Nat.mod_lt R hW
  rw [← hg] at hdm
  have hg2 : g < 4294967296 := by
    rw [hg, Nat.div_lt_iff_lt_mul hW]
    have := h.lt
    rw [Nat.pow_succ] at this
    have e : 4294967296 * (V * 4294967296 ^ j) = V * (4294967296 ^ j * 4294967296) := by rw [Nat.mul_comm, Nat.mul_assoc]
    omega
  refine ⟨⟨?_, fun i hi => ?_, ?_⟩, hg2, by omega⟩
  · have h1 := last_carry (L := L) (j := j) (c := g) hj (h.zero j (by omega))
    rw [h1, Nat.mul_add, ← Nat.mul_assoc, ← e0, Nat.mul_right_comm V g] at *
    have := h.eq
    have e2 : V * 4294967296 ^ j * g = V * (4294967296 ^ j * g) := Nat.mul_assoc _ _ _
    omega
  · rw [set_getD_ne _ _ _ _ (by omega)]; exact h.zero i (by omega)
  · omega
theorem NDiv.done {m n s : Nat} {L : List Nat} {R : Nat} (h : NDiv (m * 2 ^ s) (n * 2 ^ s) 0 L R) (hn : 0 < n) : val L = m / n ∧ R / 2 ^ s = m % n := by
  have hP : 0 < 2 ^ s := Nat.pow_pos (by omega)
  have hlt := h.lt
  rw [Nat.pow_zero, Nat.mul_one] at hlt
  have he := h.eq
  have h1 : m * 2 ^ s / (n * 2 ^ s) = val L := by
    rw [he, Nat.mul_add_div (Nat.mul_pos hn hP), Nat.div_eq_of_lt hlt, Nat.add_zero]
  have h2 : m * 2 ^ s % (n * 2 ^ s) = R := by
    rw [he, Nat.mul_add_mod, Nat.mod_eq_of_lt hlt]
  rw [Nat.mul_div_mul_right _ _ hP] at h1; rw [Nat.mul_mod_mul_right] at h2
  exact ⟨h1.symm, by rw [← h2, Nat.mul_div_cancel _ hP]⟩
def Off (g : Nat) (v : Value) : Prop := ∀ b off spot l c, v = .slice (some ⟨b, off, spot⟩) l c → b ≠ g
theorem Own.off {w : World} {base g : Nat} {v : Value} {l : List Nat} (h : Own w base v l) (hg : g < base) : Off g v := by
  intro b off spot l' c e
  rcases h.shape with ⟨rfl, _⟩ | ⟨g', cap, rfl, h1, h2, _⟩
  · cases e
  · injection e with e1 e2 e3
    injection e1 with e1
    injection e1 with e1
    omega
theorem Own.off2 {w : World} {base g : Nat} {v : Value} {l : List Nat} (h : Own w base v l) (hg : w.heap.size ≤ g) : Off g v := by
  intro b off spot l' c e
  rcases h.shape with ⟨rfl, _⟩ | ⟨g', cap, rfl, h1, h2, _⟩
  · cases e
  · injection e with e1 e2 e3
    injection e1 with e1
    injection e1 with e1
    omega
theorem Rd.setOff {W : World} {v : Value} {l : List Nat} {g j : Nat} {x : Value} (h : Rd W v l) (ho : Off g v) : Rd (W.setCell ⟨g, j, none⟩ x) v l := by
  obtain ⟨a, cap, rfl, h1, h2, h3, h4⟩ := h
  refine ⟨a, cap, rfl, h1, h2, h3, fun h0 => ?_⟩
  obtain ⟨b, off, rfl, hcell⟩ := h4 h0
  have := ho b off none _ _ rfl
  refine ⟨b, off, rfl, fun i hi => ?_⟩
  rw [World.cell?_setCell_other _ _ _ _ (fun e => this (by injection e with e1; exact e1.symm))]; exact hcell i hi
theorem Rd.len {w : World} {a : Option Addr} {l c : Nat} {L : List Nat} (h : Rd w (.slice a l c) L) : l = L.length := by
  obtain ⟨a', c', e, _⟩ := h
  injection e
theorem Rd.sl {w : World} {v : Value} {L : List Nat} (h : Rd w v L) : ∃ a c, v = .slice a L.length c := by
  obtain ⟨a', c', e, _⟩ := h; exact ⟨a', c', e⟩
theorem wordZ (w : World) (x : Int) (n : Nat) (hx : x = n) (hn : n < 18446744073709551616) :
    Calls Tryz.prog 126 #[.int .u64 x] w fun e w' => ∃ z, e = .returned z ∧ Own w' w.heap.size z (nf n) ∧ Below w.heap.size w w' := by
  subst hx; exact word_any w n hn
theorem numLong_any (w : World) (u v : Value) (m n : Nat) (hu : Rd w u (nf m)) (hv : Rd w v (nf n)) (hn0 : n ≠ 0) (hle : n ≤ m) (hlm : (nf m).length ≤ 200000) :
    Calls Tryz.prog 199 #[u, v] w fun e w' => ∃ z r, e = .returned (.tuple #[z, r]) ∧ Own w' w.heap.size z (nf (m / n)) ∧ Own w' w.heap.size r (nf (m % n)) ∧ Below w.heap.size w w' := by
  have hNM := nf_len_mono hle
  have hp := nf_len_pos hn0
  have htop := dig_get (dig_nf n) ((nf n).length - 1)
  obtain ⟨s, hs⟩ : ∃ s, s = 32 - blen ((nf n).getD ((nf n).length - 1) 0) := ⟨_, rfl⟩; obtain ⟨s1, sb, s2, s3, s4⟩ := kn_norm hn0 rfl rfl hs; have hsi : (32 : Int) - (blen ((nf n).getD ((nf n).length - 1) 0) : Int) = (s : Int) := (by omega); obtain ⟨y1, y2⟩ := kn_ys s2 s3 s4
  have hLA := left_any w u m s hu (by omega) (by omega)
  have hLB := left_any w v n s hv (by omega) (by omega)
  have CA := Lib.hid (fun (w' : World) (hb : Below w.heap.size w w') => left_any w' u m s (hu.keep hb) (by omega) (by omega)); have CB := Lib.hid hLB
  have hlz := fun w => lz32_any w ((nf n).getD ((nf n).length - 1) 0) htop
  rw [hsi] at hlz; have HLZ := Lib.hid hlz
  have hst := NDiv.start (m := m) (n := n) (s := s) (la := (nf m).length) (lb := (nf n).length) (c := (nf m).length - (nf n).length + 1) (lt_of_nf_len (Nat.le_refl _)) (by
    have h1 := val_take_drop (nf n) ((nf n).length - 1) (by omega)
    rw [val_drop_cons _ ((nf n).length - 1) (by omega), val_nf] at h1
    have h2 := nf_last n hn0
    have h3 : 4294967296 ^ ((nf n).length - 1) * 1 ≤ 4294967296 ^ ((nf n).length - 1) * ((nf n).getD ((nf n).length - 1) 0 + 4294967296 * val (List.drop ((nf n).length - 1 + 1) (nf n))) := Nat.mul_le_mul_left _ (by omega)
    omega) hp hNM rfl
  have HST := Lib.hid hst; have HDONE := Lib.hid (fun L R (h : NDiv (m * 2 ^ s) (n * 2 ^ s) 0 L R) => h.done (Nat.pos_of_ne_zero hn0)); have HV0 := Lib.hid (Nat.mul_pos (Nat.pos_of_ne_zero hn0) (show 0 < 2 ^ s from Nat.pow_pos (by omega)))
  have HT := Lib.hid (show ∃ t, (nf (n * 2 ^ s)).getD ((nf n).length - 1) 0 = t ∧ 0 < t ∧ t < 4294967296 ∧ t * 4294967296 ^ ((nf n).length - 1) ≤ n * 2 ^ s from ⟨_, rfl, by omega, dig_get (dig_nf _) _, by
    have h1 := val_take_drop (nf (n * 2 ^ s)) ((nf n).length - 1) (by omega)
    rw [val_drop_cons _ ((nf n).length - 1) (by omega), val_nf, List.drop_eq_nil_of_le (by omega), val_nil, Nat.mul_zero, Nat.add_zero, Nat.mul_comm (4294967296 ^ _)] at h1
    omega⟩)
  obtain ⟨top, htv, ht0, ht1, ht2⟩ := HT.out; have HTV := Lib.hid htv; have HT2 := Lib.hid ht2; have HVB := Lib.hid s3; have HLR := Lib.hid (show (nf (m * 2 ^ s)).length ≤ (nf m).length + 1 from Nat.le_trans (len_shl (Nat.le_refl _)) (by omega)); have HY1 := Lib.hid y1; obtain ⟨a1, c1, rfl⟩ := hu.sl; obtain ⟨b1, c2, rfl⟩ := hv.sl; obtain ⟨_, _, e2, hcb, hcbm, _, hrb⟩ := hv; obtain ⟨bb, offb, e3, hcell⟩ := hrb (by omega)
  injection e2 with e2 e4 e5
  subst e2 e5 e3
  have c0 := hcell ((nf n).length - 1) (by omega)
  obtain ⟨_, _, e2, hca, hcam, _, _⟩ := hu
  injection e2 with e2 e4 e5
  subst e2 e5
  clear HT hst hLA hLB hlz y1 y2 s2 s3 hs hsi hcell hrb htv ht2 e4 sb
  generalize (nf n).getD ((nf n).length - 1) 0 = x0 at *
  generalize (nf m).length = la at *
  generalize hNe : (nf n).length = N at *
  clear hNe
  generalize hAe : m * 2 ^ s = A at *
  generalize hVe : n * 2 ^ s = V at *
  clear hAe hVe
  generalize hJ : la - N + 1 = J at *
  have hJi : (la : Int) - (N : Int) + 1 = (J : Int) := (by omega); have HJ := Lib.hid hJ; clear hJ; go_enter Tryz.func199, Tryz.ntmps199; go_wp2_with fail
  refine (HLZ.out _).mono ?_
  rintro e w1 ⟨rfl, rfl⟩
  go_wp2_with fail
  refine CB.out.mono ?_
  rintro e w1 ⟨z, rfl, hz, hB1⟩
  go_wp2_with fail
  refine (CA.out w1 hB1).mono ?_
  rintro e w2 ⟨r0, rfl, hr0, hB2⟩
  have hzr := hz.rd.keep hB2
  have HZN := Lib.hid (show Nn w2 z V 1000000 from ⟨hzr, by rw [HY1.out]; omega⟩)
  obtain ⟨av, cv, rfl⟩ := hzr.sl; obtain ⟨ar, cr, rfl⟩ := hr0.rd.sl; obtain ⟨_, _, e2, hcv, hcvm, _, hrv⟩ := hzr
  obtain ⟨bv, offv, e3, hcellv⟩ := hrv (by rw [HY1.out]; omega)
  injection e2 with e2 e4 e5
  subst e2 e5 e3
  have ct := hcellv (N - 1) (by rw [HY1.out]; omega)
  rw [HTV.out] at ct
  have hlv : (nf V).length = N := HY1.out
  have HLV := Lib.hid (show ∀ W : Nat, W = V → (nf W).length ≤ 200000 by rintro W rfl; rw [HY1.out]; omega)
  have HRO := Lib.hid (hr0.off2 (Nat.le_refl _)); have HRR := Lib.hid hr0.rd; have HB2 := Lib.hid (blw_trans hB1 hB2)
  generalize (nf V).length = lv at *
  subst hlv; clear hcellv hrv hz e4 CA CB HLZ hr0
  have hJ1 : 1 ≤ J := by have := HJ.out; omega
  have hJ2 : J ≤ 200001 := by have := HJ.out; omega
  clear hJi hle hn0 e4
  have hJi : (la : Int) - (lv : Int) + 1 = (J : Int) := by have := HJ.out; omega
  go_wp2_with (at_make; go_loud (refine make_u32 _ rfl (.tmp 41) (.tmp 41) 24 rfl Tryz.underlying24 _ _ J rfl rfl (by omega) (by omega) (by omega) ?_); intro w3 R0 B0; clear hJi)
  go_loopw [8, 11] (fun r i wr => ∃ (k R : Nat) (L : List Nat) (xr : Option Addr) (lr zr : Nat), r = .slice xr lr zr ∧ i = .int .i64 ((k : Int) - 1) ∧ k ≤ J ∧ Row wr w2.heap.size w2.heap.size J L ∧ Hid (L.length = J) ∧ Below w2.heap.size w2 wr ∧
      Hid (Rd wr (.slice xr lr zr) (nf R)) ∧ Hid (Off w2.heap.size (.slice xr lr zr)) ∧ Hid ((nf R).length ≤ la + 1) ∧ Hid (NDiv A V k L R)) (fun _ i _ => (intOf i + 1).toNat)
  case atStart => exact ⟨J, A, _, _, _, _, rfl, rfl, Nat.le_refl _, R0, by show _ = _; simp, B0, HRR.out.keep B0, HRO.out, HLR.out, HST.out⟩
  case round =>
    obtain ⟨k, R, L, xr, lr, zr, rfl, rfl, hk, hR, hL, hB, hRd, hOff, hRl, hN⟩ := hrel; clear HRR HRO HLR HST R0 B0
    have hRow := hR.lt
    have hRc := hR.cap
    have ctr := hB.cell (p := ⟨bv, offv + (lv - 1), none⟩) (lt_of_cell ct)
    rw [ct] at ctr
    by_cases hk1 : 1 ≤ k
    · obtain ⟨j, rfl⟩ : ∃ j, k = j + 1 := ⟨k - 1, by omega⟩
      have hlr := hRd.out.len
      have hRb : R < 4294967296 ^ (lv + j - 1 + 2) := by
        have h1 := hN.out.lt
        have h2 := HVB.out
        have h3 : 4294967296 ^ (lv + j - 1 + 2) = 4294967296 ^ lv * 4294967296 ^ (j + 1) := by rw [← Nat.pow_add]; congr 1; omega
        rw [h3]; exact Nat.lt_of_lt_of_le h1 (Nat.mul_le_mul_right _ (Nat.le_of_lt h2))
      obtain ⟨hF, hF2⟩ := lead_two hRb
      have hGe := guess_ge (j := j) hp HT2.out ht0 hN.out.lt
      generalize hFF : R / 4294967296 ^ (lv + j - 1) = F at *
      have hW : 0 < V * 4294967296 ^ j := Nat.mul_pos HV0.out (Nat.pow_pos (by omega))
      have HW := Lib.hid hW; obtain ⟨g0, hg0⟩ : ∃ g0, g0 = min (F / top) 4294967295 := ⟨_, rfl⟩; rw [← hg0] at hGe; have HGE := Lib.hid hGe
      have q0 : (F : Int) / (top : Int) = ((F / top : Nat) : Int) := (Int.natCast_ediv _ _).symm
      have hmin : min ((F : Int) / (top : Int)) 4294967295 = (g0 : Int) := by rw [q0, hg0]; omega
      have q1 : (0 : Int) ≤ (F : Int) / (top : Int) := by rw [q0]; exact Int.natCast_nonneg _
      have q2 : (F : Int) / (top : Int) < 18446744073709551616 := by rw [q0]; have : F / top ≤ F := Nat.div_le_self _ _; omega
      have hg1 : g0 < 4294967296 := (by omega); have ht3 : (1 : Int) ≤ (top : Int) := (by omega)
      have ht4 : ((top : Int) == 0) = false := by rw [beq_eq_false_iff_ne]; omega
      have HMIN := Lib.hid hmin
      have HG0 := Lib.hid (show F = 0 → g0 ≤ 0 by intro h; rw [hg0, h, Nat.zero_div]; exact Nat.min_le_left _ _)
      have HF := Lib.hid hF; have hF3 : (F : Int) < 18446744073709551616 := (by omega); obtain ⟨_, _, e2, hcr, hcrm, _, hrr⟩ := hRd.out
      injection e2 with e2 e4 e5
      subst e2 e5
      have b0 : (0 : Int) ≤ (lv : Int) + (j : Int) := (by omega); have b1 : (0 : Int) ≤ (lv : Int) + (j : Int) - 1 := (by omega); have en : ((lv : Int) + (j : Int) - 1).toNat = lv + j - 1 := (by omega); have en2 : ((lv : Int) + (j : Int)).toNat = lv + j := (by omega); have hFF := Lib.hid hFF; have Q1 := Lib.hid q1; have Q2 := Lib.hid q2; have HF2 := Lib.hid hF2; clear hFF hF hF2 hRb hW q0 hg0 hGe hmin q1 q2 hF3 e4; have HLR := Lib.hid hlr
      rcases Nat.lt_or_ge (lv + j) lr with hA | hA
      · obtain ⟨br, offr, rfl, hcl⟩ := hrr (by omega)
        have r0 := hcl (lv + j - 1) (by omega)
        have r1 := hcl (lv + j) (by omega)
        have d0 := dig_get (dig_nf R) (lv + j - 1)
        have d1 := dig_get (dig_nf R) (lv + j)
        have hF := HF.out
        rw [show lv + j - 1 + 1 = lv + j by omega] at hF
        generalize (nf R).getD (lv + j - 1) 0 = x at *
        generalize (nf R).getD (lv + j) 0 = y at *
        have HO := Lib.hid (high_or x y d0 d1); have HXY := Lib.hid (show ((x + 4294967296 * y : Nat) : Int) = (F : Int) by rw [hF]); have c1 : (lv : Int) + (j : Int) < (lr : Int) := (by omega); have c2 : (lv : Int) + (j : Int) - 1 < (lr : Int) := (by omega); clear hcl hrr hlr hF; go_wp2_with fail
        go_quiet (fail)
        rw [HO.out, HXY.out]; obtain ⟨wx, hwx⟩ : ∃ wx, wx = wr.drewN nq := ⟨_, rfl⟩; rw [← hwx]
        have BX := Lib.hid (show Below wr.heap.size wr wx by rw [hwx]; exact blw_drewN (Below.refl _ _) _)
        clear hwx r0 r1 ctr c1 c2
        have hmin := HMIN.out
        have q1 := Q1.out
        have q2 := Q2.out
        have RX := Lib.hid (hR.keep BX.out); have RDX := Lib.hid (hRd.out.keep BX.out); have B2X := Lib.hid (hB.trans (BX.out.mono hB.size)); have RVX := Lib.hid (HZN.out.1.keep B2X.out); have HSZ := Lib.hid (Nat.lt_of_lt_of_le hRow.2 BX.out.size); go_wp2_with fail; clear hmin q1 q2 ht3 ht4
        refine (wordZ _ _ g0 (by omega) (by omega)).mono ?_
        rintro e wa ⟨zw, rfl, hzw, bA⟩
        have hlv3 := Nat.le_trans hNM hlm
        have hPA := product_any _ _ _ _ _ (RVX.out.keep bA) hzw.rd (Nat.le_trans (HLV.out V rfl) (by omega)) (Nat.le_trans (nf_len_le (k := 1) (by omega)) (by omega))
        rw [val_nf, val_nf] at hPA; have HPA := Lib.hid hPA; have BA := Lib.hid bA; clear hPA hzw bA; go_wp2_with fail
        refine HPA.out.mono ?_
        rintro e wb ⟨zp, rfl, hzp, bB⟩
        have BB := Lib.hid bB; have HZP := Lib.hid hzp; clear bB hzp HPA; go_wp2_with fail
        rw [show (32 : Int) * (j : Int) = ((32 * j : Nat) : Int) by omega]
        refine (left_any _ _ (V * g0) (32 * j) HZP.out.rd (Nat.le_trans (len_mul (HLV.out V rfl) (nf_len_le (k := 1) (by omega)) (Nat.le_refl _)) (by omega)) (by omega)).mono ?_
        rintro e wc ⟨zs, rfl, hzs, bC⟩
        have HP0 := Lib.hid (show V * g0 * 2 ^ (32 * j) = V * g0 * 4294967296 ^ j by rw [show (4294967296 : Nat) = 2 ^ 32 by decide, ← Nat.pow_mul]); rw [HP0.out] at hzs; have HOS := Lib.hid (hzs.off (g := w2.heap.size) (Nat.lt_of_lt_of_le HSZ.out (Nat.le_trans BA.out.size BB.out.size))); have HZS := Lib.hid hzs.rd; have BXC := Lib.hid (blw_trans (blw_trans BA.out BB.out) bC); obtain ⟨xs, cs, rfl⟩ := hzs.rd.sl; clear hzs bC HP0 HZP BA BB
        generalize (nf (V * g0 * 4294967296 ^ j)).length = ls0 at *
        go_wp2_with fail
        go_loopw [14, 15] (fun gs ps wy => ∃ (g lp cp : Nat) (xp : Option Addr), gs = .int .u64 (g : Int) ∧ ps = .slice xp lp cp ∧ g < 4294967296 ∧ Hid (R / (V * 4294967296 ^ j) ≤ g) ∧ Hid (Rd wy (.slice xp lp cp) (nf (V * g * 4294967296 ^ j))) ∧ Hid (Off w2.heap.size (.slice xp lp cp)) ∧ Hid (Below wx.heap.size wx wy)) (fun gs _ _ => (intOf gs).toNat)
        case atStart => exact ⟨g0, _, _, _, (by first | rfl | go_num), rfl, hg1, HGE.out, HZS.out, HOS.out, BXC.out⟩
        case round =>
          obtain ⟨g, lp, cp, xp, rfl, rfl, hg, HGQ, HRP, HOP, BXY⟩ := hrel; clear HZS HOS BXC HGE; go_wp2_with fail
          refine (numCmp_any _ _ _ _ _ HRP.out (RDX.out.keep BXY.out)).mono ?_
          rintro e wd ⟨rfl, bD⟩
          have BXD := Lib.hid (blw_trans BXY.out bD); have HRP2 := Lib.hid (HRP.out.keep bD); clear bD
          by_cases hgt : R < V * g * 4294967296 ^ j
          · have hcmp := cmpN_gt hgt
            have hdn := guess_down HW.out (by rw [Nat.mul_comm g, Nat.mul_right_comm]; exact hgt)
            have HDN := Lib.hid hdn.1
            have hg2 := hdn.2
            clear hdn hgt; rw [hcmp]; clear hcmp; go_wp2_with fail
            rw [show (g : Int) - 1 = ((g - 1 : Nat) : Int) by omega]
            refine (word_any _ (g - 1) (by omega)).mono ?_
            rintro e we ⟨zw, rfl, hzw, bA⟩
            have hPA := product_any _ _ _ _ _ ((RVX.out.keep BXD.out).keep bA) hzw.rd (Nat.le_trans (HLV.out V rfl) (by omega)) (Nat.le_trans (nf_len_le (k := 1) (by omega)) (by omega))
            rw [val_nf, val_nf] at hPA; have HPA := Lib.hid hPA; have BA := Lib.hid bA; clear hPA hzw bA; go_wp2_with fail
            refine HPA.out.mono ?_
            rintro e wf ⟨zp, rfl, hzp, bB⟩
            have BB := Lib.hid bB; have HZP := Lib.hid hzp; clear bB hzp HPA; go_wp2_with fail
            rw [show (32 : Int) * (j : Int) = ((32 * j : Nat) : Int) by omega]
            refine (left_any _ _ (V * (g - 1)) (32 * j) HZP.out.rd (Nat.le_trans (len_mul (HLV.out V rfl) (nf_len_le (k := 1) (by omega)) (Nat.le_refl _)) (by omega)) (by omega)).mono ?_
            rintro e wg ⟨zs, rfl, hzs, bC⟩
            have HP0 := Lib.hid (show V * (g - 1) * 2 ^ (32 * j) = V * (g - 1) * 4294967296 ^ j by rw [show (4294967296 : Nat) = 2 ^ 32 by decide, ← Nat.pow_mul]); rw [HP0.out] at hzs; have HOS := Lib.hid (hzs.off (g := w2.heap.size) (Nat.lt_of_lt_of_le HSZ.out (Nat.le_trans BXD.out.size (Nat.le_trans BA.out.size BB.out.size)))); have HZS := Lib.hid hzs.rd; have BXG := Lib.hid (blw_trans BXD.out (blw_trans (blw_trans BA.out BB.out) bC)); obtain ⟨xs2, cs2, rfl⟩ := hzs.rd.sl; clear hzs bC HP0 HZP BA BB
            generalize (nf (V * (g - 1) * 4294967296 ^ j)).length = ls2 at *
            go_wp2_with fail
            go_roundw
            case rel => exact ⟨g - 1, _, _, _, by go_num, rfl, by omega, HDN.out, HZS.out, HOS.out, BXG.out⟩
            case measure => simp [intOf]; omega
          · have hcmp : ¬ (0 < cmpN (V * g * 4294967296 ^ j) R) := by
              unfold cmpN; rw [if_neg hgt]
              split <;> omega
            have hgq := guess_done HW.out HGQ.out (by rw [Nat.mul_comm g, Nat.mul_right_comm]; omega)
            have HSTEP := Lib.hid (hN.out.step (by rw [hL.out]; omega) HV0.out hgq)
            have HLE := Lib.hid (show V * g * 4294967296 ^ j ≤ R by omega); clear hgq hgt
            generalize cmpN (V * g * 4294967296 ^ j) R = cc at *
            have hcc : decide (0 < cc) = false := by simpa using hcmp
            have RD := Lib.hid (RX.out.keep BXD.out)
            have hRl2 := RD.out.lt
            have cR := RD.out.cell (j := j) (by rw [hL.out]; omega)
            have fR := RD.out.free j
            generalize L.getD j 0 = zz at *
            have RS := Lib.hid (RD.out.set j hg); have HRS := Lib.hid ((hRd.out.keep (blw_trans BX.out BXD.out)).setOff (j := j) (x := .int .u32 (g : Int)) hOff.out); have HPS := Lib.hid (HRP2.out.setOff (j := j) (x := .int .u32 (g : Int)) HOP.out)
            have hlen2 := nf_len_mono HLE.out
            have hLL := numLess_any _ _ _ _ _ HRS.out HPS.out hlen2 (by rw [val_nf, val_nf]; exact HLE.out) (Nat.le_trans hRl.out (by omega))
            rw [val_nf, val_nf] at hLL; have HLL := Lib.hid hLL; clear hLL hlen2; go_wp2_with fail
            refine HLL.out.mono ?_
            rintro e we ⟨z2, rfl, hz2, bE⟩
            have HZ2 := Lib.hid hz2.rd
            have HO2 := Lib.hid (hz2.off (g := w2.heap.size) (by simp only [World.size_setCell]; exact Nat.lt_of_lt_of_le HSZ.out BXD.out.size))
            have HRW := Lib.hid (RS.out.keep bE); have HBW := Lib.hid (((hB.trans (BX.out.mono hB.size)).trans (BXD.out.mono (Nat.le_of_lt HSZ.out))).setCell (p := ⟨w2.heap.size, j, none⟩) (Nat.le_refl _) (.int .u32 (g : Int))); have HBE := Lib.hid (HBW.out.trans (bE.mono HBW.out.size)); obtain ⟨x2, c3, rfl⟩ := hz2.rd.sl; clear hz2 bE HLL
            have HLS := Lib.hid (show (L.set j g).length = J by rw [List.length_set]; exact hL.out)
            generalize (nf (R - V * g * 4294967296 ^ j)).length = lz at *
            have HRL2 := Lib.hid (Nat.le_trans (nf_len_mono (Nat.sub_le R (V * g * 4294967296 ^ j))) hRl.out); go_wp2_with fail
            go_roundw
            case rel => exact ⟨j, R - V * g * 4294967296 ^ j, L.set j g, _, _, _, rfl, by go_num, by omega, HRW.out, HLS.out, HBE.out, HZ2.out, HO2.out, HRL2.out, HSTEP.out.1⟩
            case measure => simp [intOf]
      · rcases Nat.lt_or_ge (lv + j - 1) lr with hA2 | hA2
        · obtain ⟨br, offr, rfl, hcl⟩ := hrr (by omega)
          have r0 := hcl (lv + j - 1) (by omega)
          have hF := HF.out
          rw [getD_out (k := lv + j - 1 + 1) (by rw [← HLR.out]; omega), Nat.mul_zero, Nat.add_zero] at hF
          have d0 := dig_get (dig_nf R) (lv + j - 1)
          rw [← hF] at r0 d0; have c1 : ¬ ((lv : Int) + (j : Int) < (lr : Int)) := (by omega); have c2 : (lv : Int) + (j : Int) - 1 < (lr : Int) := (by omega); clear hcl hrr hlr hF; obtain ⟨wx, hwx⟩ : ∃ wx, wx = wr := ⟨_, rfl⟩; rw [← hwx]
          have BX := Lib.hid (show Below wr.heap.size wr wx by rw [hwx]; exact Below.refl _ _)
          rw [← hwx] at r0; clear hwx ctr
          have hmin := HMIN.out
          have q1 := Q1.out
          have q2 := Q2.out
          have RX := Lib.hid (hR.keep BX.out); have RDX := Lib.hid (hRd.out.keep BX.out); have B2X := Lib.hid (hB.trans (BX.out.mono hB.size)); have RVX := Lib.hid (HZN.out.1.keep B2X.out); have HSZ := Lib.hid (Nat.lt_of_lt_of_le hRow.2 BX.out.size); go_wp2_with fail; clear hmin q1 q2 ht3 ht4
          refine (wordZ _ _ g0 (by omega) (by omega)).mono ?_
          rintro e wa ⟨zw, rfl, hzw, bA⟩
          have hlv3 := Nat.le_trans hNM hlm
          have hPA := product_any _ _ _ _ _ (RVX.out.keep bA) hzw.rd (Nat.le_trans (HLV.out V rfl) (by omega)) (Nat.le_trans (nf_len_le (k := 1) (by omega)) (by omega))
          rw [val_nf, val_nf] at hPA; have HPA := Lib.hid hPA; have BA := Lib.hid bA; clear hPA hzw bA; go_wp2_with fail
          refine HPA.out.mono ?_
          rintro e wb ⟨zp, rfl, hzp, bB⟩
          have BB := Lib.hid bB; have HZP := Lib.hid hzp; clear bB hzp HPA; go_wp2_with fail
          rw [show (32 : Int) * (j : Int) = ((32 * j : Nat) : Int) by omega]
          refine (left_any _ _ (V * g0) (32 * j) HZP.out.rd (Nat.le_trans (len_mul (HLV.out V rfl) (nf_len_le (k := 1) (by omega)) (Nat.le_refl _)) (by omega)) (by omega)).mono ?_
          rintro e wc ⟨zs, rfl, hzs, bC⟩
          have HP0 := Lib.hid (show V * g0 * 2 ^ (32 * j) = V * g0 * 4294967296 ^ j by rw [show (4294967296 : Nat) = 2 ^ 32 by decide, ← Nat.pow_mul]); rw [HP0.out] at hzs; have HOS := Lib.hid (hzs.off (g := w2.heap.size) (Nat.lt_of_lt_of_le HSZ.out (Nat.le_trans BA.out.size BB.out.size))); have HZS := Lib.hid hzs.rd; have BXC := Lib.hid (blw_trans (blw_trans BA.out BB.out) bC); obtain ⟨xs, cs, rfl⟩ := hzs.rd.sl; clear hzs bC HP0 HZP BA BB
          generalize (nf (V * g0 * 4294967296 ^ j)).length = ls0 at *
          go_wp2_with fail
          go_loopw [14, 15] (fun gs ps wy => ∃ (g lp cp : Nat) (xp : Option Addr), gs = .int .u64 (g : Int) ∧ ps = .slice xp lp cp ∧ g < 4294967296 ∧ Hid (R / (V * 4294967296 ^ j) ≤ g) ∧ Hid (Rd wy (.slice xp lp cp) (nf (V * g * 4294967296 ^ j))) ∧ Hid (Off w2.heap.size (.slice xp lp cp)) ∧ Hid (Below wx.heap.size wx wy)) (fun gs _ _ => (intOf gs).toNat)
          case atStart => exact ⟨g0, _, _, _, (by first | rfl | go_num), rfl, hg1, HGE.out, HZS.out, HOS.out, BXC.out⟩
          case round =>
            obtain ⟨g, lp, cp, xp, rfl, rfl, hg, HGQ, HRP, HOP, BXY⟩ := hrel; clear HZS HOS BXC HGE; go_wp2_with fail
            refine (numCmp_any _ _ _ _ _ HRP.out (RDX.out.keep BXY.out)).mono ?_
            rintro e wd ⟨rfl, bD⟩
            have BXD := Lib.hid (blw_trans BXY.out bD); have HRP2 := Lib.hid (HRP.out.keep bD); clear bD
            by_cases hgt : R < V * g * 4294967296 ^ j
            · have hcmp := cmpN_gt hgt
              have hdn := guess_down HW.out (by rw [Nat.mul_comm g, Nat.mul_right_comm]; exact hgt)
              have HDN := Lib.hid hdn.1
              have hg2 := hdn.2
              clear hdn hgt; rw [hcmp]; clear hcmp; go_wp2_with fail
              rw [show (g : Int) - 1 = ((g - 1 : Nat) : Int) by omega]
              refine (word_any _ (g - 1) (by omega)).mono ?_
              rintro e we ⟨zw, rfl, hzw, bA⟩
              have hPA := product_any _ _ _ _ _ ((RVX.out.keep BXD.out).keep bA) hzw.rd (Nat.le_trans (HLV.out V rfl) (by omega)) (Nat.le_trans (nf_len_le (k := 1) (by omega)) (by omega))
              rw [val_nf, val_nf] at hPA; have HPA := Lib.hid hPA; have BA := Lib.hid bA; clear hPA hzw bA; go_wp2_with fail
              refine HPA.out.mono ?_
              rintro e wf ⟨zp, rfl, hzp, bB⟩
              have BB := Lib.hid bB; have HZP := Lib.hid hzp; clear bB hzp HPA; go_wp2_with fail
              rw [show (32 : Int) * (j : Int) = ((32 * j : Nat) : Int) by omega]
              refine (left_any _ _ (V * (g - 1)) (32 * j) HZP.out.rd (Nat.le_trans (len_mul (HLV.out V rfl) (nf_len_le (k := 1) (by omega)) (Nat.le_refl _)) (by omega)) (by omega)).mono ?_
              rintro e wg ⟨zs, rfl, hzs, bC⟩
              have HP0 := Lib.hid (show V * (g - 1) * 2 ^ (32 * j) = V * (g - 1) * 4294967296 ^ j by rw [show (4294967296 : Nat) = 2 ^ 32 by decide, ← Nat.pow_mul]); rw [HP0.out] at hzs; have HOS := Lib.hid (hzs.off (g := w2.heap.size) (Nat.lt_of_lt_of_le HSZ.out (Nat.le_trans BXD.out.size (Nat.le_trans BA.out.size BB.out.size)))); have HZS := Lib.hid hzs.rd; have BXG := Lib.hid (blw_trans BXD.out (blw_trans (blw_trans BA.out BB.out) bC)); obtain ⟨xs2, cs2, rfl⟩ := hzs.rd.sl; clear hzs bC HP0 HZP BA BB
              generalize (nf (V * (g - 1) * 4294967296 ^ j)).length = ls2 at *
              go_wp2_with fail
              go_roundw
              case rel => exact ⟨g - 1, _, _, _, by go_num, rfl, by omega, HDN.out, HZS.out, HOS.out, BXG.out⟩
              case measure => simp [intOf]; omega
            · have hcmp : ¬ (0 < cmpN (V * g * 4294967296 ^ j) R) := by
                unfold cmpN; rw [if_neg hgt]
                split <;> omega
              have hgq := guess_done HW.out HGQ.out (by rw [Nat.mul_comm g, Nat.mul_right_comm]; omega)
              have HSTEP := Lib.hid (hN.out.step (by rw [hL.out]; omega) HV0.out hgq)
              have HLE := Lib.hid (show V * g * 4294967296 ^ j ≤ R by omega); clear hgq hgt
              generalize cmpN (V * g * 4294967296 ^ j) R = cc at *
              have hcc : decide (0 < cc) = false := by simpa using hcmp
              have RD := Lib.hid (RX.out.keep BXD.out)
              have hRl2 := RD.out.lt
              have cR := RD.out.cell (j := j) (by rw [hL.out]; omega)
              have fR := RD.out.free j
              generalize L.getD j 0 = zz at *
              have RS := Lib.hid (RD.out.set j hg); have HRS := Lib.hid ((hRd.out.keep (blw_trans BX.out BXD.out)).setOff (j := j) (x := .int .u32 (g : Int)) hOff.out); have HPS := Lib.hid (HRP2.out.setOff (j := j) (x := .int .u32 (g : Int)) HOP.out)
              have hlen2 := nf_len_mono HLE.out
              have hLL := numLess_any _ _ _ _ _ HRS.out HPS.out hlen2 (by rw [val_nf, val_nf]; exact HLE.out) (Nat.le_trans hRl.out (by omega))
              rw [val_nf, val_nf] at hLL; have HLL := Lib.hid hLL; clear hLL hlen2; go_wp2_with fail
              refine HLL.out.mono ?_
              rintro e we ⟨z2, rfl, hz2, bE⟩
              have HZ2 := Lib.hid hz2.rd
              have HO2 := Lib.hid (hz2.off (g := w2.heap.size) (by simp only [World.size_setCell]; exact Nat.lt_of_lt_of_le HSZ.out BXD.out.size))
              have HRW := Lib.hid (RS.out.keep bE); have HBW := Lib.hid (((hB.trans (BX.out.mono hB.size)).trans (BXD.out.mono (Nat.le_of_lt HSZ.out))).setCell (p := ⟨w2.heap.size, j, none⟩) (Nat.le_refl _) (.int .u32 (g : Int))); have HBE := Lib.hid (HBW.out.trans (bE.mono HBW.out.size)); obtain ⟨x2, c3, rfl⟩ := hz2.rd.sl; clear hz2 bE HLL
              have HLS := Lib.hid (show (L.set j g).length = J by rw [List.length_set]; exact hL.out)
              generalize (nf (R - V * g * 4294967296 ^ j)).length = lz at *
              have HRL2 := Lib.hid (Nat.le_trans (nf_len_mono (Nat.sub_le R (V * g * 4294967296 ^ j))) hRl.out); go_wp2_with fail
              go_roundw
              case rel => exact ⟨j, R - V * g * 4294967296 ^ j, L.set j g, _, _, _, rfl, by go_num, by omega, HRW.out, HLS.out, HBE.out, HZ2.out, HO2.out, HRL2.out, HSTEP.out.1⟩
              case measure => simp [intOf]
        · have c1 : ¬ ((lv : Int) + (j : Int) < (lr : Int)) := by omega
          have c2 : ¬ ((lv : Int) + (j : Int) - 1 < (lr : Int)) := (by omega)
          have hF := HF.out
          rw [getD_out (k := lv + j - 1 + 1) (by rw [← HLR.out]; omega), getD_out (k := lv + j - 1) (by rw [← HLR.out]; omega)] at hF
          have hg00 := HG0.out hF
          clear hrr hlr hF; obtain ⟨wx, hwx⟩ : ∃ wx, wx = wr := ⟨_, rfl⟩; rw [← hwx]
          have BX := Lib.hid (show Below wr.heap.size wr wx by rw [hwx]; exact Below.refl _ _)
          clear hwx ctr
          have hmin := HMIN.out
          have q1 := Q1.out
          have q2 := Q2.out
          have RX := Lib.hid (hR.keep BX.out); have RDX := Lib.hid (hRd.out.keep BX.out); have B2X := Lib.hid (hB.trans (BX.out.mono hB.size)); have RVX := Lib.hid (HZN.out.1.keep B2X.out); have HSZ := Lib.hid (Nat.lt_of_lt_of_le hRow.2 BX.out.size); go_wp2_with fail; clear hmin q1 q2 ht3 ht4
          refine (wordZ _ _ g0 (by omega) (by omega)).mono ?_
          rintro e wa ⟨zw, rfl, hzw, bA⟩
          have hlv3 := Nat.le_trans hNM hlm
          have hPA := product_any _ _ _ _ _ (RVX.out.keep bA) hzw.rd (Nat.le_trans (HLV.out V rfl) (by omega)) (Nat.le_trans (nf_len_le (k := 1) (by omega)) (by omega))
          rw [val_nf, val_nf] at hPA; have HPA := Lib.hid hPA; have BA := Lib.hid bA; clear hPA hzw bA; go_wp2_with fail
          refine HPA.out.mono ?_
          rintro e wb ⟨zp, rfl, hzp, bB⟩
          have BB := Lib.hid bB; have HZP := Lib.hid hzp; clear bB hzp HPA; go_wp2_with fail
          rw [show (32 : Int) * (j : Int) = ((32 * j : Nat) : Int) by omega]
          refine (left_any _ _ (V * g0) (32 * j) HZP.out.rd (Nat.le_trans (len_mul (HLV.out V rfl) (nf_len_le (k := 1) (by omega)) (Nat.le_refl _)) (by omega)) (by omega)).mono ?_
          rintro e wc ⟨zs, rfl, hzs, bC⟩
          have HP0 := Lib.hid (show V * g0 * 2 ^ (32 * j) = V * g0 * 4294967296 ^ j by rw [show (4294967296 : Nat) = 2 ^ 32 by decide, ← Nat.pow_mul]); rw [HP0.out] at hzs; have HOS := Lib.hid (hzs.off (g := w2.heap.size) (Nat.lt_of_lt_of_le HSZ.out (Nat.le_trans BA.out.size BB.out.size))); have HZS := Lib.hid hzs.rd; have BXC := Lib.hid (blw_trans (blw_trans BA.out BB.out) bC); obtain ⟨xs, cs, rfl⟩ := hzs.rd.sl; clear hzs bC HP0 HZP BA BB
          generalize (nf (V * g0 * 4294967296 ^ j)).length = ls0 at *
          go_wp2_with fail
          go_loopw [14, 15] (fun gs ps wy => ∃ (g lp cp : Nat) (xp : Option Addr), gs = .int .u64 (g : Int) ∧ ps = .slice xp lp cp ∧ g < 4294967296 ∧ Hid (R / (V * 4294967296 ^ j) ≤ g) ∧ Hid (Rd wy (.slice xp lp cp) (nf (V * g * 4294967296 ^ j))) ∧ Hid (Off w2.heap.size (.slice xp lp cp)) ∧ Hid (Below wx.heap.size wx wy)) (fun gs _ _ => (intOf gs).toNat)
          case atStart => exact ⟨g0, _, _, _, (by first | rfl | go_num), rfl, hg1, HGE.out, HZS.out, HOS.out, BXC.out⟩
          case round =>
            obtain ⟨g, lp, cp, xp, rfl, rfl, hg, HGQ, HRP, HOP, BXY⟩ := hrel; clear HZS HOS BXC HGE; go_wp2_with fail
            refine (numCmp_any _ _ _ _ _ HRP.out (RDX.out.keep BXY.out)).mono ?_
            rintro e wd ⟨rfl, bD⟩
            have BXD := Lib.hid (blw_trans BXY.out bD); have HRP2 := Lib.hid (HRP.out.keep bD); clear bD
            by_cases hgt : R < V * g * 4294967296 ^ j
            · have hcmp := cmpN_gt hgt
              have hdn := guess_down HW.out (by rw [Nat.mul_comm g, Nat.mul_right_comm]; exact hgt)
              have HDN := Lib.hid hdn.1
              have hg2 := hdn.2
              clear hdn hgt; rw [hcmp]; clear hcmp; go_wp2_with fail
              rw [show (g : Int) - 1 = ((g - 1 : Nat) : Int) by omega]
              refine (word_any _ (g - 1) (by omega)).mono ?_
              rintro e we ⟨zw, rfl, hzw, bA⟩
              have hPA := product_any _ _ _ _ _ ((RVX.out.keep BXD.out).keep bA) hzw.rd (Nat.le_trans (HLV.out V rfl) (by omega)) (Nat.le_trans (nf_len_le (k := 1) (by omega)) (by omega))
              rw [val_nf, val_nf] at hPA; have HPA := Lib.hid hPA; have BA := Lib.hid bA; clear hPA hzw bA; go_wp2_with fail
              refine HPA.out.mono ?_
              rintro e wf ⟨zp, rfl, hzp, bB⟩
              have BB := Lib.hid bB; have HZP := Lib.hid hzp; clear bB hzp HPA; go_wp2_with fail
              rw [show (32 : Int) * (j : Int) = ((32 * j : Nat) : Int) by omega]
              refine (left_any _ _ (V * (g - 1)) (32 * j) HZP.out.rd (Nat.le_trans (len_mul (HLV.out V rfl) (nf_len_le (k := 1) (by omega)) (Nat.le_refl _)) (by omega)) (by omega)).mono ?_
              rintro e wg ⟨zs, rfl, hzs, bC⟩
              have HP0 := Lib.hid (show V * (g - 1) * 2 ^ (32 * j) = V * (g - 1) * 4294967296 ^ j by rw [show (4294967296 : Nat) = 2 ^ 32 by decide, ← Nat.pow_mul]); rw [HP0.out] at hzs; have HOS := Lib.hid (hzs.off (g := w2.heap.size) (Nat.lt_of_lt_of_le HSZ.out (Nat.le_trans BXD.out.size (Nat.le_trans BA.out.size BB.out.size)))); have HZS := Lib.hid hzs.rd; have BXG := Lib.hid (blw_trans BXD.out (blw_trans (blw_trans BA.out BB.out) bC)); obtain ⟨xs2, cs2, rfl⟩ := hzs.rd.sl; clear hzs bC HP0 HZP BA BB
              generalize (nf (V * (g - 1) * 4294967296 ^ j)).length = ls2 at *
              go_wp2_with fail
              go_roundw
              case rel => exact ⟨g - 1, _, _, _, by go_num, rfl, by omega, HDN.out, HZS.out, HOS.out, BXG.out⟩
              case measure => simp [intOf]; omega
            · have hcmp : ¬ (0 < cmpN (V * g * 4294967296 ^ j) R) := by
                unfold cmpN; rw [if_neg hgt]
                split <;> omega
              have hgq := guess_done HW.out HGQ.out (by rw [Nat.mul_comm g, Nat.mul_right_comm]; omega)
              have HSTEP := Lib.hid (hN.out.step (by rw [hL.out]; omega) HV0.out hgq)
              have HLE := Lib.hid (show V * g * 4294967296 ^ j ≤ R by omega); clear hgq hgt
              generalize cmpN (V * g * 4294967296 ^ j) R = cc at *
              have hcc : decide (0 < cc) = false := by simpa using hcmp
              have RD := Lib.hid (RX.out.keep BXD.out)
              have hRl2 := RD.out.lt
              have cR := RD.out.cell (j := j) (by rw [hL.out]; omega)
              have fR := RD.out.free j
              generalize L.getD j 0 = zz at *
              have RS := Lib.hid (RD.out.set j hg); have HRS := Lib.hid ((hRd.out.keep (blw_trans BX.out BXD.out)).setOff (j := j) (x := .int .u32 (g : Int)) hOff.out); have HPS := Lib.hid (HRP2.out.setOff (j := j) (x := .int .u32 (g : Int)) HOP.out)
              have hlen2 := nf_len_mono HLE.out
              have hLL := numLess_any _ _ _ _ _ HRS.out HPS.out hlen2 (by rw [val_nf, val_nf]; exact HLE.out) (Nat.le_trans hRl.out (by omega))
              rw [val_nf, val_nf] at hLL; have HLL := Lib.hid hLL; clear hLL hlen2; go_wp2_with fail
              refine HLL.out.mono ?_
              rintro e we ⟨z2, rfl, hz2, bE⟩
              have HZ2 := Lib.hid hz2.rd
              have HO2 := Lib.hid (hz2.off (g := w2.heap.size) (by simp only [World.size_setCell]; exact Nat.lt_of_lt_of_le HSZ.out BXD.out.size))
              have HRW := Lib.hid (RS.out.keep bE); have HBW := Lib.hid (((hB.trans (BX.out.mono hB.size)).trans (BXD.out.mono (Nat.le_of_lt HSZ.out))).setCell (p := ⟨w2.heap.size, j, none⟩) (Nat.le_refl _) (.int .u32 (g : Int))); have HBE := Lib.hid (HBW.out.trans (bE.mono HBW.out.size)); obtain ⟨x2, c3, rfl⟩ := hz2.rd.sl; clear hz2 bE HLL
              have HLS := Lib.hid (show (L.set j g).length = J by rw [List.length_set]; exact hL.out)
              generalize (nf (R - V * g * 4294967296 ^ j)).length = lz at *
              have HRL2 := Lib.hid (Nat.le_trans (nf_len_mono (Nat.sub_le R (V * g * 4294967296 ^ j))) hRl.out); go_wp2_with fail
              go_roundw
              case rel => exact ⟨j, R - V * g * 4294967296 ^ j, L.set j g, _, _, _, rfl, by go_num, by omega, HRW.out, HLS.out, HBE.out, HZ2.out, HO2.out, HRL2.out, HSTEP.out.1⟩
              case measure => simp [intOf]
    · obtain rfl : k = 0 := by omega
      have HD := Lib.hid (HDONE.out _ _ hN.out)
      have hRow2 : Own wr w2.heap.size (.slice (some ⟨w2.heap.size, 0, none⟩) J J) L := by
        have := hR
        unfold Row at this; rw [hL.out] at this; exact this
      have HRW := Lib.hid hRow2; clear hRow2; go_wp2_with fail
      refine (numTrim_own _ _ _ _ HRW.out).mono ?_
      rintro e wa ⟨z, rfl, hz, rfl⟩
      have HZ := Lib.hid hz; clear hz; go_wp2_with fail
      refine (right_any _ _ R s hRd.out (Nat.le_trans hRl.out (by omega)) (by omega)).mono ?_
      rintro e wb ⟨z2, rfl, hz2, bB⟩
      go_wp2; go_ret2
      have hz2' := hz2
      rw [HD.out.2] at hz2'
      have hz' := HZ.out
      rw [HD.out.1] at hz'
      have hsz := HB2.out.size
      refine ⟨_, _, rfl, (hz'.keep bB).mono hsz, hz2'.mono (Nat.le_trans hsz hB.size), ?_⟩
      exact (HB2.out.trans (hB.mono hsz)).trans (bB.mono (Nat.le_trans hsz hB.size))
end
section
def RetQR (w : World) (q r k : Nat) (e : Ending) (w' : World) : Prop := ∃ a l c a2 l2 c2, e = .returned (.tuple #[.slice a l c, .slice a2 l2 c2]) ∧ Nn w' (.slice a l c) q k ∧ Nn w' (.slice a2 l2 c2) r k ∧ Below w.heap.size w w'
theorem RetQR.mk {w w' : World} {q r k : Nat} {v1 v2 : Value} (h1 : Nn w' v1 q k) (h2 : Nn w' v2 r k) (hb : Below w.heap.size w w') : RetQR w q r k (.returned (.tuple #[v1, v2])) w' := by
  obtain ⟨a, c, rfl, _⟩ := h1.shape; obtain ⟨a2, c2, rfl, _⟩ := h2.shape; exact ⟨_, _, _, _, _, _, rfl, h1, h2, hb⟩
theorem divideW {w : World} {u v : Value} {m n km kn : Nat} (hu : Nn w u m km) (hv : Nn w v n kn) (hn : n ≠ 0) (hk : km ≤ 200000) :
    Calls Tryz.prog 140 #[u, v] w (RetQR w (m / n) (m % n) (km + 2)) := by
  obtain ⟨a1, c1, rfl⟩ := hu.1.sl; obtain ⟨a2, c2, rfl⟩ := hv.1.sl
  have hk1 := hu.2
  have HQL := Lib.hid (Nat.le_trans (len_le (Nat.div_le_self m n) hk1) (Nat.le_add_right km 2)); have HRL := Lib.hid (Nat.le_trans (len_le (Nat.mod_le m n) hk1) (Nat.le_add_right km 2))
  by_cases hs : m < 18446744073709551616 ∧ n < 18446744073709551616
  · obtain ⟨hm1, hn1⟩ := hs; have CW := Lib.hid (numWord2W hu); have CV := Lib.hid (fun (W : World) (h : Below w.heap.size w W) => numWord2W (hv.keep h)); have HU1 := Lib.hid (uintV_lt hm1); have HU2 := Lib.hid (uintV_lt hn1)
    have e1 : (m : Int) / (n : Int) = ((m / n : Nat) : Int) := (Int.natCast_ediv _ _).symm
    have e2 : (m : Int) % (n : Int) = ((m % n : Nat) : Int) := (Int.natCast_emod _ _).symm
    have hq1 : m / n < 18446744073709551616 := Nat.lt_of_le_of_lt (Nat.div_le_self _ _) hm1
    have hr1 : m % n < 18446744073709551616 := Nat.lt_of_le_of_lt (Nat.mod_le _ _) hm1
    have HE1 := Lib.hid e1; have HE2 := Lib.hid e2; have HQ1 := Lib.hid hq1; have HR1 := Lib.hid hr1; clear e1 e2 hq1 hr1 hu hv; go_enter Tryz.func140, Tryz.ntmps140; go_wp2_with fail
    refine CW.out.mono ?_
    rintro e w1 ⟨rfl, j1, rfl⟩
    rw [HU1.out]; go_wp2_with fail
    refine (CV.out _ (blw_drewN (Below.refl _ _) _)).mono ?_
    rintro e w2 ⟨rfl, j2, rfl⟩
    rw [HU2.out]; have hn3 : (1 : Int) ≤ (n : Int) := (by omega)
    have hn4 : ((n : Int) == 0) = false := by rw [beq_eq_false_iff_ne]; omega
    go_wp2_with fail
    have HQX := Lib.hid (show IntKind.u64.wrap ((m : Int) / (n : Int)) = ((m / n : Nat) : Int) by
      rw [HE1.out, IntKind.wrap_u64]; exact Int.emod_eq_of_lt (Int.natCast_nonneg _) (by have := HQ1.out; omega))
    have HRX := Lib.hid (show IntKind.u64.wrap ((m : Int) % (n : Int)) = ((m % n : Nat) : Int) by
      rw [HE2.out, IntKind.wrap_u64]; exact Int.emod_eq_of_lt (Int.natCast_nonneg _) (by have := HR1.out; omega))
    have HTM := Lib.hid (show (m : Int).tmod (n : Int) = ((m % n : Nat) : Int) by rw [Int.tmod_eq_emod_of_nonneg (Int.natCast_nonneg _), HE2.out])
    go_region_held3 (fun _ => True) (trivial) (first
      | (go_at_call 126; (with_reducible refine (wordZ _ _ (m / n) HQX.out HQ1.out).mono ?_); rintro e w3 ⟨zq, rfl, hzq, bq⟩)
      | (go_at_call 126; (with_reducible refine (wordZ _ _ (m % n) HRX.out HR1.out).mono ?_); rintro e w4 ⟨zr, rfl, hzr, br⟩)
      | (go_at_call 126; (with_reducible refine (wordZ _ _ (m % n) HTM.out HR1.out).mono ?_); rintro e w4 ⟨zr, rfl, hzr, br⟩))
    go_wp2; go_ret2
    have hb1 : Below w.heap.size w w3 := blw_trans (blw_drewN (Below.refl _ _) _) bq
    exact .mk (.of_own (hzq.keep br) HQL.out) (.of_own hzr HRL.out) (blw_trans hb1 br)
  · have hs : 18446744073709551616 ≤ m ∨ (m < 18446744073709551616 ∧ 18446744073709551616 ≤ n) := by omega
    have CC := Lib.hid (fun (W : World) (h : Below w.heap.size w W) => numCmpW (hu.keep h) (hv.keep h)); have CW := Lib.hid (numWord2W hu); have CV := Lib.hid (fun (W : World) (h : Below w.heap.size w W) => numWord2W (hv.keep h)); have HU := Lib.hid hu; have HV := Lib.hid hv; clear hu hv; go_enter Tryz.func140, Tryz.ntmps140
    rcases hs with hs | ⟨hs1, hs2⟩
    · have HU1 := Lib.hid (uintV_ge hs); clear hs; go_wp2_with fail
      refine CW.out.mono ?_
      rintro e w1 ⟨rfl, j1, rfl⟩
      rw [HU1.out]; have B1 := Lib.hid (show Below w.heap.size w (w.drewN j1) from blw_drewN (Below.refl _ _) _)
      generalize w.drewN j1 = w1 at *
      go_wp2_with fail
      refine (CC.out w1 B1.out).mono ?_
      rintro e w2 ⟨rfl, b2⟩
      have B2 := Lib.hid (blw_trans B1.out b2); clear b2 B1 CC CW CV
      by_cases hlt : m < n
      · rw [cmpN_lt hlt]; have HQ := Lib.hid (Nat.div_eq_of_lt hlt); have HR := Lib.hid (Nat.mod_eq_of_lt hlt); have HX := Lib.hid (HU.out.1.keep B2.out); clear hlt
        go_wp2_with (at_builtin; go_loud (refine app_u32 _ rfl (.tmp 37) (.tmp 38) 41 41 rfl Tryz.underlying41 Tryz.underlying41 w2.heap.size _ _ [] (nf m) rfl rfl (own_lit w2 [] dig_nil (by simp) _ rfl) (HX.out.keep (blw_one _ _)) (by simp; omega) (by simp) ?_); intro v1 w3 o1 g1 _)
        have B3 := own_grown (own_lit w2 [] dig_nil (by simp) _ rfl) (blw_one _ _) g1 (Nat.le_refl _)
        go_ret2
        refine .mk (by rw [HQ.out]; exact Nn.nil _ _) ?_ (blw_trans B2.out B3)
        rw [HR.out]; exact .of_own o1 (by omega)
      · have hge : ¬ (cmpN m n < 0) := by unfold cmpN; rw [if_neg hlt]; split <;> omega
        generalize cmpN m n = cc at *
        have hp := nf_len_pos hn
        by_cases h1 : (nf n).length = 1
        · have hb1 : (((nf n).length : Int) == 1) = true := by rw [h1]; rfl
          have hnB : n < 4294967296 := by have := lt_of_nf_len (Nat.le_of_eq h1); omega
          have hn0 : 0 < n := Nat.pos_of_ne_zero hn
          have hl1 : (nf m).length ≤ 200000 := (by omega); obtain ⟨_, _, e2, hcb, hcbm, _, hrb⟩ := HV.out.1.keep B2.out
          injection e2 with e2 e4 e5
          subst e2 e5
          obtain ⟨bb, offb, rfl, hcb2⟩ := hrb (by omega)
          have cb := hcb2 0 (by omega)
          have hnn : (nf n).getD 0 0 = n := by rw [nf_getD]; simp; omega
          rw [hnn, Nat.add_zero] at cb; obtain ⟨_, _, e2, hca, hcam, hda, hra⟩ := HU.out.1.keep B2.out
          injection e2 with e2 e6 e7
          subst e2 e7
          have HLN := Lib.hid h1; clear h1 e4 e6 hcb2 hrb hnn HU HV hlt hn hp
          have hbl : 0 < (nf n).length := by rw [HLN.out]; omega
          generalize (nf n).length = ln at *
          have HVM := Lib.hid (val_nf m)
          generalize hla : nf m = la at *
          clear hla
          go_wp2_with (at_make; go_loud (refine make_u32 _ rfl (.tmp 44) (.tmp 44) 24 rfl Tryz.underlying24 _ _ la.length rfl rfl (by omega) (by omega) (by omega) ?_); intro w3 R0 B0)
          go_loopw [11, 12] (fun c i wr => ∃ (k r : Nat) (L : List Nat), k ≤ la.length ∧ i = .int .i64 ((k : Int) - 1) ∧ c = .int .u32 r ∧ r < n ∧ Row wr w2.heap.size w2.heap.size la.length L ∧ Hid (L.length = la.length) ∧ Below w2.heap.size w2 wr ∧
              Hid (∀ j, j < k → L.getD j 0 = 0) ∧ Hid (4294967296 ^ k * val (la.drop k) = val L * n + 4294967296 ^ k * r)) (fun _ i _ => (intOf i + 1).toNat)
          case atStart => exact ⟨la.length, 0, _, Nat.le_refl _, rfl, rfl, hn0, R0, by show _ = _; simp, B0, fun j _ => getD_replicate _ _, by show _ = _; simp [val_replicate, val_nil]⟩
          case round =>
            obtain ⟨k, r, L, hk, rfl, rfl, hr, hR, hL, hB, hz, hv⟩ := hrel
            have hRl := hR.lt
            have hRc := hR.cap
            have cbr := hB.cell (p := ⟨bb, offb, none⟩) (lt_of_cell cb)
            rw [cb] at cbr
            by_cases hk1 : 1 ≤ k
            · obtain ⟨j, rfl⟩ : ∃ j, k = j + 1 := ⟨k - 1, by omega⟩
              obtain ⟨ba, offa, rfl, cA⟩ := hra.at hB (k := j) (by omega)
              have hx := dig_get hda j
              have hst := fun x hx => @short_step la L n r x j (by omega) hL.out hx hn0 hr hR.dig hda hz.out hv.out
              have hst := hst _ rfl
              generalize la.getD j 0 = x at *
              have cR := hR.cell (j := j) (by rw [hL.out]; omega)
              have fR := hR.free j
              generalize L.getD j 0 = zz at *
              have b0 : (0 : Int) ≤ (j : Int) := (by omega); have b1 : (j : Int) < (la.length : Int) := (by omega); have HST := Lib.hid hst; have CD := Lib.hid (fun (W : World) => div32W (w := W) (h := r) (l := x) (y := n) hr hx hnB)
              have hba := hra.below (by omega) _ _ rfl
              have hbb := lt_of_cell cb
              have n1 : (⟨w2.heap.size, j, none⟩ : Addr) ≠ ⟨ba, offa + j, none⟩ := fun e => by injection e with e; (try dsimp only at hba); omega
              have n2 : (⟨w2.heap.size, j, none⟩ : Addr) ≠ ⟨bb, offb, none⟩ := fun e => by injection e with e; (try dsimp only at hbb); omega
              have CA := Lib.hid cA; have CB := Lib.hid cbr; have CRU := Lib.hid (hasU cR); have FR := Lib.hid fR; have CR := Lib.hid cR; clear hst hra; go_wp2_with fail
              go_region_held3 (fun w' => w'.cell? ⟨ba, offa + j, none⟩ = some (.int .u32 (x : Int)) ∧ w'.cell? ⟨bb, offb, none⟩ = some (.int .u32 (n : Int)) ∧ w'.cell? ⟨w2.heap.size, j, none⟩ = some (.int .u32 (cellI w' ⟨w2.heap.size, j, none⟩)) ∧ w'.frozen? ⟨w2.heap.size, j, none⟩ = false)
                (first | exact ⟨CA.out, CB.out, CRU.out, FR.out⟩ | exact ⟨setn CA.out n1, setn CB.out n2, setUs CR.out, setf FR.out⟩)
                (first | (go_at_call 198; refine (CD.out _).mono ?_; rintro e w' ⟨rfl, jd, rfl⟩))
              go_split_ands
              have HS := Lib.hid ((hR.set j HST.out.1).keep (Below.refl _ _)); clear CA CB CRU FR CR n1 n2; go_wp2_with fail
              go_roundw
              case rel =>
                obtain ⟨s1, s2, s3, s4, s5⟩ := HST.out
                exact ⟨j, (x + 4294967296 * r) % n, L.set j ((x + 4294967296 * r) / n), by omega, by go_num, rfl, s2, hR.set j s1, by show _ = _; rw [List.length_set]; exact hL.out, (blw_drewN hB _).setCell (p := ⟨w2.heap.size, j, none⟩) (Nat.le_refl _) _, s4, s5⟩
              case measure => simp [intOf]
            · obtain rfl : k = 0 := by omega
              have HST := Lib.hid (short_end hr hv.out)
              have hRow2 : Own wr w2.heap.size (.slice (some ⟨w2.heap.size, 0, none⟩) la.length la.length) L := by
                have := hR
                unfold Row at this; rw [hL.out] at this; exact this
              have HRW := Lib.hid hRow2; clear hRow2 hra; go_wp2_with fail
              refine (numTrim_own _ _ _ _ HRW.out).mono ?_
              rintro e wa ⟨z, rfl, hz, rfl⟩
              have HZ := Lib.hid hz; clear hz; have HO := Lib.hid (own_lit wr [r] (dig1 (by omega)) (by simp) #[.int .u32 (r : Int)] rfl); go_wp2_with fail
              refine (numTrim_own _ _ _ _ HO.out).mono ?_
              rintro e wb ⟨z2, rfl, hz2, rfl⟩
              go_wp2; go_ret2
              have hz' := HZ.out
              rw [HST.out.1, HVM.out] at hz'
              have hvr : val [r] = m % n := by
                rw [show val [r] = r by simp [val_cons, val_nil], ← HVM.out]; exact HST.out.2
              rw [hvr] at hz2; exact .mk (.of_own (hz'.keep (blw_one _ _)) HQL.out) (.of_own hz2 HRL.out) (blw_alloc (blw_trans B2.out hB) _)
        · have hb1 : (((nf n).length : Int) == 1) = false := by rw [beq_eq_false_iff_ne]; omega
          have CL := Lib.hid (numLong_any w2 _ _ m n (HU.out.1.keep B2.out) (HV.out.1.keep B2.out) hn (by omega) (by omega)); go_wp2_with fail
          refine CL.out.mono ?_
          rintro e w3 ⟨z, r, rfl, hz, hr, b3⟩
          go_wp2; go_ret2; exact .mk (.of_own hz HQL.out) (.of_own hr HRL.out) (blw_trans B2.out b3)
    · have HU1 := Lib.hid (uintV_lt hs1); have HU2 := Lib.hid (uintV_ge hs2); clear hs1 hs2; go_wp2_with fail
      refine CW.out.mono ?_
      rintro e w1 ⟨rfl, j1, rfl⟩
      rw [HU1.out]; go_wp2_with fail
      refine (CV.out _ (blw_drewN (Below.refl _ _) _)).mono ?_
      rintro e w2 ⟨rfl, j2, rfl⟩
      rw [HU2.out]; have B1 := Lib.hid (show Below w.heap.size w (w.drewN (j1 + j2)) from blw_drewN (Below.refl _ _) _); go_wp2_with fail
      generalize w.drewN (j1 + j2) = w1 at *
      go_wp2_with fail
      refine (CC.out w1 B1.out).mono ?_
      rintro e w2 ⟨rfl, b2⟩
      have B2 := Lib.hid (blw_trans B1.out b2); clear b2 B1 CC CW CV
      by_cases hlt : m < n
      · rw [cmpN_lt hlt]; have HQ := Lib.hid (Nat.div_eq_of_lt hlt); have HR := Lib.hid (Nat.mod_eq_of_lt hlt); have HX := Lib.hid (HU.out.1.keep B2.out); clear hlt
        go_wp2_with (at_builtin; go_loud (refine app_u32 _ rfl (.tmp 37) (.tmp 38) 41 41 rfl Tryz.underlying41 Tryz.underlying41 w2.heap.size _ _ [] (nf m) rfl rfl (own_lit w2 [] dig_nil (by simp) _ rfl) (HX.out.keep (blw_one _ _)) (by simp; omega) (by simp) ?_); intro v1 w3 o1 g1 _)
        have B3 := own_grown (own_lit w2 [] dig_nil (by simp) _ rfl) (blw_one _ _) g1 (Nat.le_refl _)
        go_ret2
        refine .mk (by rw [HQ.out]; exact Nn.nil _ _) ?_ (blw_trans B2.out B3)
        rw [HR.out]; exact .of_own o1 (by omega)
      · have hge : ¬ (cmpN m n < 0) := by unfold cmpN; rw [if_neg hlt]; split <;> omega
        generalize cmpN m n = cc at *
        have hp := nf_len_pos hn
        by_cases h1 : (nf n).length = 1
        · have hb1 : (((nf n).length : Int) == 1) = true := by rw [h1]; rfl
          have hnB : n < 4294967296 := by have := lt_of_nf_len (Nat.le_of_eq h1); omega
          have hn0 : 0 < n := Nat.pos_of_ne_zero hn
          have hl1 : (nf m).length ≤ 200000 := (by omega); obtain ⟨_, _, e2, hcb, hcbm, _, hrb⟩ := HV.out.1.keep B2.out
          injection e2 with e2 e4 e5
          subst e2 e5
          obtain ⟨bb, offb, rfl, hcb2⟩ := hrb (by omega)
          have cb := hcb2 0 (by omega)
          have hnn : (nf n).getD 0 0 = n := by rw [nf_getD]; simp; omega
          rw [hnn, Nat.add_zero] at cb; obtain ⟨_, _, e2, hca, hcam, hda, hra⟩ := HU.out.1.keep B2.out
          injection e2 with e2 e6 e7
          subst e2 e7
          have HLN := Lib.hid h1; clear h1 e4 e6 hcb2 hrb hnn HU HV hlt hn hp
          have hbl : 0 < (nf n).length := by rw [HLN.out]; omega
          generalize (nf n).length = ln at *
          have HVM := Lib.hid (val_nf m)
          generalize hla : nf m = la at *
          clear hla
          go_wp2_with (at_make; go_loud (refine make_u32 _ rfl (.tmp 44) (.tmp 44) 24 rfl Tryz.underlying24 _ _ la.length rfl rfl (by omega) (by omega) (by omega) ?_); intro w3 R0 B0)
          go_loopw [11, 12] (fun c i wr => ∃ (k r : Nat) (L : List Nat), k ≤ la.length ∧ i = .int .i64 ((k : Int) - 1) ∧ c = .int .u32 r ∧ r < n ∧ Row wr w2.heap.size w2.heap.size la.length L ∧ Hid (L.length = la.length) ∧ Below w2.heap.size w2 wr ∧
              Hid (∀ j, j < k → L.getD j 0 = 0) ∧ Hid (4294967296 ^ k * val (la.drop k) = val L * n + 4294967296 ^ k * r)) (fun _ i _ => (intOf i + 1).toNat)
          case atStart => exact ⟨la.length, 0, _, Nat.le_refl _, rfl, rfl, hn0, R0, by show _ = _; simp, B0, fun j _ => getD_replicate _ _, by show _ = _; simp [val_replicate, val_nil]⟩
          case round =>
            obtain ⟨k, r, L, hk, rfl, rfl, hr, hR, hL, hB, hz, hv⟩ := hrel
            have hRl := hR.lt
            have hRc := hR.cap
            have cbr := hB.cell (p := ⟨bb, offb, none⟩) (lt_of_cell cb)
            rw [cb] at cbr
            by_cases hk1 : 1 ≤ k
            · obtain ⟨j, rfl⟩ : ∃ j, k = j + 1 := ⟨k - 1, by omega⟩
              obtain ⟨ba, offa, rfl, cA⟩ := hra.at hB (k := j) (by omega)
              have hx := dig_get hda j
              have hst := fun x hx => @short_step la L n r x j (by omega) hL.out hx hn0 hr hR.dig hda hz.out hv.out
              have hst := hst _ rfl
              generalize la.getD j 0 = x at *
              have cR := hR.cell (j := j) (by rw [hL.out]; omega)
              have fR := hR.free j
              generalize L.getD j 0 = zz at *
              have b0 : (0 : Int) ≤ (j : Int) := (by omega); have b1 : (j : Int) < (la.length : Int) := (by omega); have HST := Lib.hid hst; have CD := Lib.hid (fun (W : World) => div32W (w := W) (h := r) (l := x) (y := n) hr hx hnB)
              have hba := hra.below (by omega) _ _ rfl
              have hbb := lt_of_cell cb
              have n1 : (⟨w2.heap.size, j, none⟩ : Addr) ≠ ⟨ba, offa + j, none⟩ := fun e => by injection e with e; (try dsimp only at hba); omega
              have n2 : (⟨w2.heap.size, j, none⟩ : Addr) ≠ ⟨bb, offb, none⟩ := fun e => by injection e with e; (try dsimp only at hbb); omega
              have CA := Lib.hid cA; have CB := Lib.hid cbr; have CRU := Lib.hid (hasU cR); have FR := Lib.hid fR; have CR := Lib.hid cR; clear hst hra; go_wp2_with fail
              go_region_held3 (fun w' => w'.cell? ⟨ba, offa + j, none⟩ = some (.int .u32 (x : Int)) ∧ w'.cell? ⟨bb, offb, none⟩ = some (.int .u32 (n : Int)) ∧ w'.cell? ⟨w2.heap.size, j, none⟩ = some (.int .u32 (cellI w' ⟨w2.heap.size, j, none⟩)) ∧ w'.frozen? ⟨w2.heap.size, j, none⟩ = false)
                (first | exact ⟨CA.out, CB.out, CRU.out, FR.out⟩ | exact ⟨setn CA.out n1, setn CB.out n2, setUs CR.out, setf FR.out⟩)
                (first | (go_at_call 198; refine (CD.out _).mono ?_; rintro e w' ⟨rfl, jd, rfl⟩))
              go_split_ands
              have HS := Lib.hid ((hR.set j HST.out.1).keep (Below.refl _ _)); clear CA CB CRU FR CR n1 n2; go_wp2_with fail
              go_roundw
              case rel =>
                obtain ⟨s1, s2, s3, s4, s5⟩ := HST.out
                exact ⟨j, (x + 4294967296 * r) % n, L.set j ((x + 4294967296 * r) / n), by omega, by go_num, rfl, s2, hR.set j s1, by show _ = _; rw [List.length_set]; exact hL.out, (blw_drewN hB _).setCell (p := ⟨w2.heap.size, j, none⟩) (Nat.le_refl _) _, s4, s5⟩
              case measure => simp [intOf]
            · obtain rfl : k = 0 := by omega
              have HST := Lib.hid (short_end hr hv.out)
              have hRow2 : Own wr w2.heap.size (.slice (some ⟨w2.heap.size, 0, none⟩) la.length la.length) L := by
                have := hR
                unfold Row at this; rw [hL.out] at this; exact this
              have HRW := Lib.hid hRow2; clear hRow2 hra; go_wp2_with fail
              refine (numTrim_own _ _ _ _ HRW.out).mono ?_
              rintro e wa ⟨z, rfl, hz, rfl⟩
              have HZ := Lib.hid hz; clear hz; have HO := Lib.hid (own_lit wr [r] (dig1 (by omega)) (by simp) #[.int .u32 (r : Int)] rfl); go_wp2_with fail
              refine (numTrim_own _ _ _ _ HO.out).mono ?_
              rintro e wb ⟨z2, rfl, hz2, rfl⟩
              go_wp2; go_ret2
              have hz' := HZ.out
              rw [HST.out.1, HVM.out] at hz'
              have hvr : val [r] = m % n := by
                rw [show val [r] = r by simp [val_cons, val_nil], ← HVM.out]; exact HST.out.2
              rw [hvr] at hz2; exact .mk (.of_own (hz'.keep (blw_one _ _)) HQL.out) (.of_own hz2 HRL.out) (blw_alloc (blw_trans B2.out hB) _)
        · have hb1 : (((nf n).length : Int) == 1) = false := by rw [beq_eq_false_iff_ne]; omega
          have CL := Lib.hid (numLong_any w2 _ _ m n (HU.out.1.keep B2.out) (HV.out.1.keep B2.out) hn (by omega) (by omega)); go_wp2_with fail
          refine CL.out.mono ?_
          rintro e w3 ⟨z, r, rfl, hz, hr, b3⟩
          go_wp2; go_ret2; exact .mk (.of_own hz HQL.out) (.of_own hr HRL.out) (blw_trans B2.out b3)
end
section
theorem Calls.kS {P : Program} {f : FuncId} {args : Array Value} {w : World} {v : Value} {K : Ending → World → Prop} (h : Calls P f args w (fun e w' => e = .returned v ∧ w = w'))
    (hK : K (.returned v) w) : Calls P f args w K := by
  refine h.mono ?_
  rintro e w' ⟨rfl, rfl⟩
  exact hK
theorem gb_al {w W : World} {g : Nat} {o : Obj} (h : w.grownBy W (some g)) : w.grownBy (W.alloc o) (some g) := gb_below h (blw_one _ _)
theorem gb_dr {w W : World} {g : Nat} (h : w.grownBy W (some g)) : w.grownBy W.drew (some g) := gb_below h (blw_drew (Below.refl _ _))
theorem gb_keep2 {w W W2 : World} {g : Nat} (hb : Below W.heap.size W W2) (h : w.grownBy W (some g)) : w.grownBy W2 (some g) := gb_below h hb
theorem gb_tp2 {w W W2 : World} {g : Nat} (hg : W.grownBy W2 (some g)) (h : w.grownBy W (some g)) : w.grownBy W2 (some g) := gb_trans h hg
theorem gb_set {w W : World} {g : Nat} {p : Addr} {x : Value} (hp : w.heap.size ≤ p.block) (h : w.grownBy W (some g)) : w.grownBy (W.setCell p x) (some g) :=
  ⟨h.os, h.tape, h.output, by simpa using h.size, fun i hi hne => by rw [Below.heap_setCell _ _ _ _ (by omega)]; exact h.block i hi hne⟩
end
end Go.Proofs.YtdlnoeegboapkaaGreatDoor
