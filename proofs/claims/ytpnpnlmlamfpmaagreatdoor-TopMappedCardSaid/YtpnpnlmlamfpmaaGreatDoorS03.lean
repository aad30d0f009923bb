import Derived.Test.YtpnpnlmlamfpmaaGreatDoorS01
import Derived.Lib.BitFns
import Derived.Lib.Slices
import Derived.Lib.Small
import Derived.Lib.Strings
import Derived.Lib.Walk
import Derived.WalkSpells
namespace Go.Proofs.YtpnpnlmlamfpmaaGreatDoor
open Go.RowKit
set_option maxHeartbeats 40000000
set_option maxRecDepth 100000
set_option synthInstance.maxHeartbeats 1000000
set_option synthInstance.maxSize 100000
section
variable {m n x y : Nat}
theorem Mg (h : x ≠ y) : ((x : Int) != (y : Int)) = true := by
 rw [bne_iff_ne]; omega
theorem Z8 (h : x = y) : ((x : Int) != (y : Int)) = false := by
 subst h; simp
theorem Oi {l m : List Nat} (h : l.length = m.length) (hh : ∀ j, j < l.length → l.getD j 0 = m.getD j 0) : l = m := by
 apply List.ext_getElem h
 intro i h1 h2
 have := hh i h1
 rw [List.getD_eq_getElem?_getD, List.getD_eq_getElem?_getD, List.getElem?_eq_getElem h1, List.getElem?_eq_getElem h2] at this; exact this
def Av (m n : Nat) : Int := if m < n then -1 else if n < m then 1 else 0
theorem Fl (h : m < n) : Av m n = -1 := by unfold Av; rw [if_pos h]
theorem Fx (h : n < m) : Av m n = 1 := by unfold Av; rw [if_neg (by omega), if_pos h]
theorem H0 (h : m = n) : Av m n = 0 := by unfold Av; rw [if_neg (by omega), if_neg (by omega)]
theorem Lz {la lb : List Nat} {k : Nat} (hl : la.length = lb.length) (hda : Dig la) (hk : k < la.length) (hE : ∀ j, k + 1 ≤ j → j < la.length → la.getD j 0 = lb.getD j 0)
  (h : la.getD k 0 < lb.getD k 0) : val la < val lb := by
 have e : la.drop (k + 1) = lb.drop (k + 1) := by
  refine Oi (by simp [hl]) fun j hj => ?_
  rw [List.length_drop] at hj; rw [List.getD_eq_getElem?_getD, List.getD_eq_getElem?_getD, List.getElem?_drop, List.getElem?_drop, ← List.getD_eq_getElem?_getD, ← List.getD_eq_getElem?_getD]; exact hE _ (by omega) (by omega)
 have h1 := Dt la k (by omega)
 have h2 := Dt lb k (by omega)
 rw [Ck la k hk] at h1; rw [Ck lb k (by omega), ← e] at h2
 have h3 := C9 (la.take k) (E7 hda k)
 rw [List.length_take, Nat.min_eq_left (by omega)] at h3
 generalize la.getD k 0 = x, lb.getD k 0 = y, val (la.drop (k + 1)) = D at *
 have h4 : 4294967296 ^ k * (x + 1) ≤ 4294967296 ^ k * y := Nat.mul_le_mul_left _ h
 rw [Nat.mul_add] at h1 h2 h4; omega
theorem Z5 (w : World) (u v : Value) (la lb : List Nat) (hu : Rd w u la) (hv : Rd w v lb) :
  Calls Tryz.prog 223 #[u, v] w fun e w' => e = .returned (.int .i64 (Av (val la) (val lb))) ∧ Below w.heap.size w w' := by
 go_enter Tryz.func223, Tryz.ntmps223; go_wp2_with fail
 refine (D3 _ _ _ hu).mono ?_
 rintro e w1 ⟨u', rfl, hu', rfl⟩
 go_wp2_with fail
 refine (D3 _ _ _ hv).mono ?_
 rintro e w1 ⟨v', rfl, hv', rfl⟩
 have hlt2 := @Lh (val la) (val lb)
 have hgt2 := @Lh (val lb) (val la)
 have hva := Ah (val la)
 have hvb := Ah (val lb)
 generalize nf (val la) = xs, nf (val lb) = ys at *
 have hcv : Av (val xs) (val ys) = Av (val la) (val lb) := by rw [hva, hvb]
 have HCV := Lib.hid hcv; clear hva hvb hu hv hcv; obtain ⟨a, capa, rfl, h1, h2, hda, hra⟩ := hu'; obtain ⟨b, capb, rfl, h3, h4, hdb, hrb⟩ := hv'
 by_cases hl : xs.length < ys.length
 ·have HN := Lib.hid (Fl (hlt2 hl))
  have hne := Mg (x := xs.length) (y := ys.length) (by omega)
  clear hlt2 hgt2; go_wp2; go_ret
  exact ⟨by rw [HN.out]; rfl, Below.refl _ _⟩
 by_cases hg : ys.length < xs.length
 ·have HN := Lib.hid (Fx (hgt2 hg))
  have hne := Mg (x := xs.length) (y := ys.length) (by omega)
  clear hlt2 hgt2; go_wp2; go_ret
  exact ⟨by rw [HN.out]; rfl, Below.refl _ _⟩
 have hlen : xs.length = ys.length := (by omega)
 have hne := Z8 hlen
 have HL := Lib.hid hlen; have hle : ys.length ≤ xs.length := (by omega); clear hlt2 hgt2 hlen hl hg; go_wp2
 go_loopw [5] (fun i wr => ∃ k : Nat, k ≤ xs.length ∧ i = .int .i64 ((k : Int) - 1) ∧ Below w.heap.size w wr ∧ Hid (∀ j, k ≤ j → j < xs.length → xs.getD j 0 = ys.getD j 0)) (fun i _ => (intOf i + 1).toNat)
 case atStart => exact ⟨xs.length, Nat.le_refl _, rfl, Below.refl _ _, fun j h h' => absurd h' (by omega)⟩
 case round =>
  obtain ⟨k, hk, rfl, hB, hE⟩ := hrel
  by_cases hk1 : 1 ≤ k
  ·have hka : k - 1 < xs.length := by omega
   have hkb : k - 1 < ys.length := by have := HL.out; omega
   obtain ⟨ba, offa, rfl, cA⟩ := hra.at hB hka; obtain ⟨bb, offb, rfl, cB⟩ := hrb.at hB hkb
   have hlt2 : xs.getD (k - 1) 0 < ys.getD (k - 1) 0 → Hid (Av (val la) (val lb) = -1) := fun h => HCV.out.symm.trans <| Fl (Lz HL.out hda hka (fun j h1 h2 => hE.out j (by omega) h2) h)
   have hgt2 : ys.getD (k - 1) 0 < xs.getD (k - 1) 0 → Hid (Av (val la) (val lb) = 1) := fun h => HCV.out.symm.trans <| Fx (Lz HL.out.symm hdb hkb (fun j h1 h2 => (hE.out j (by omega) (by have := HL.out; omega)).symm) h)
   have heq2 : xs.getD (k - 1) 0 = ys.getD (k - 1) 0 → Hid (∀ j, k - 1 ≤ j → j < xs.length → xs.getD j 0 = ys.getD j 0) := fun h j h1 h2 => by
    by_cases hj : j = k - 1
    ·rw [hj]; exact h
    ·exact hE.out j (by omega) h2
   have hx := An hda (k - 1)
   have hy := An hdb (k - 1)
   generalize xs.getD (k - 1) 0 = x, ys.getD (k - 1) 0 = y at *
   have b0 : (0 : Int) ≤ (k : Int) - 1 := (by omega); have b1 : (k : Int) - 1 < (xs.length : Int) := (by omega); have b2 : (k : Int) - 1 < (ys.length : Int) := (by omega)
   by_cases hl : x < y
   ·have HN := hlt2 hl
    clear hlt2 hgt2 heq2 hra hrb; go_wp2
    go_quiet (fail)
    go_wp2; go_ret
    exact ⟨by rw [HN.out]; rfl, Be hB _⟩
   by_cases hg : y < x
   ·have HN := hgt2 hg
    clear hlt2 hgt2 heq2 hra hrb; go_wp2
    go_quiet (fail)
    go_wp2
    go_quiet (fail)
    go_wp2; go_ret
    exact ⟨by rw [HN.out]; rfl, Be (Be hB _) _⟩
   ·have HN := heq2 (by omega)
    clear hlt2 hgt2 heq2 hra hrb; go_wp2
    go_quiet (fail)
    go_wp2
    go_quiet (fail)
    go_wp2
    go_roundw
    case rel => exact ⟨k - 1, by omega, by go_num, Be hB _, HN⟩
    case measure => simp [intOf]; omega
  ·have HN := Lib.hid (HCV.out.symm.trans (H0 (m := val xs) (n := val ys) (by rw [Oi HL.out (fun j hj => hE.out j (by omega) hj)]))); go_wp2; go_ret
   exact ⟨by rw [HN.out]; rfl, hB⟩
theorem Nh (w : World) (u v : Value) (m n : Nat) (hu : Rd w u (nf m)) (hv : Rd w v (nf n)) :
  Calls Tryz.prog 105 #[u, v] w fun e w' => e = .returned (.int .i64 (Av m n)) ∧ Below w.heap.size w w' := by
 have hlt2 := @Lh m n
 have hgt2 := @Lh n m
 have hva := Ah m
 have hvb := Ah n
 generalize nf m = xs, nf n = ys at *
 have hcv : Av (val xs) (val ys) = Av m n := by rw [hva, hvb]
 have HCV := Lib.hid hcv; clear hva hvb hcv; obtain ⟨a, capa, rfl, h1, h2, hda, hra⟩ := hu; obtain ⟨b, capb, rfl, h3, h4, hdb, hrb⟩ := hv; go_enter Tryz.func105, Tryz.ntmps105
 by_cases hl : xs.length < ys.length
 ·have HN := Lib.hid (Fl (hlt2 hl))
  have hne := Mg (x := xs.length) (y := ys.length) (by omega)
  clear hlt2 hgt2; go_wp2; go_ret
  exact ⟨by rw [HN.out]; rfl, Below.refl _ _⟩
 by_cases hg : ys.length < xs.length
 ·have HN := Lib.hid (Fx (hgt2 hg))
  have hne := Mg (x := xs.length) (y := ys.length) (by omega)
  clear hlt2 hgt2; go_wp2; go_ret
  exact ⟨by rw [HN.out]; rfl, Below.refl _ _⟩
 have hlen : xs.length = ys.length := (by omega)
 have hne := Z8 hlen
 have HL := Lib.hid hlen; have hle : ys.length ≤ xs.length := (by omega); clear hlt2 hgt2 hlen hl hg; go_wp2
 go_loopw [5] (fun i wr => ∃ k : Nat, k ≤ xs.length ∧ i = .int .i64 ((k : Int) - 1) ∧ Below w.heap.size w wr ∧ Hid (∀ j, k ≤ j → j < xs.length → xs.getD j 0 = ys.getD j 0)) (fun i _ => (intOf i + 1).toNat)
 case atStart => exact ⟨xs.length, Nat.le_refl _, rfl, Below.refl _ _, fun j h h' => absurd h' (by omega)⟩
 case round =>
  obtain ⟨k, hk, rfl, hB, hE⟩ := hrel
  by_cases hk1 : 1 ≤ k
  ·have hka : k - 1 < xs.length := by omega
   have hkb : k - 1 < ys.length := by have := HL.out; omega
   obtain ⟨ba, offa, rfl, cA⟩ := hra.at hB hka; obtain ⟨bb, offb, rfl, cB⟩ := hrb.at hB hkb
   have hlt2 : xs.getD (k - 1) 0 < ys.getD (k - 1) 0 → Hid (Av m n = -1) := fun h => HCV.out.symm.trans <| Fl (Lz HL.out hda hka (fun j h1 h2 => hE.out j (by omega) h2) h)
   have hgt2 : ys.getD (k - 1) 0 < xs.getD (k - 1) 0 → Hid (Av m n = 1) := fun h => HCV.out.symm.trans <| Fx (Lz HL.out.symm hdb hkb (fun j h1 h2 => (hE.out j (by omega) (by have := HL.out; omega)).symm) h)
   have heq2 : xs.getD (k - 1) 0 = ys.getD (k - 1) 0 → Hid (∀ j, k - 1 ≤ j → j < xs.length → xs.getD j 0 = ys.getD j 0) := fun h j h1 h2 => by
    by_cases hj : j = k - 1
    ·rw [hj]; exact h
    ·exact hE.out j (by omega) h2
   have hx := An hda (k - 1)
   have hy := An hdb (k - 1)
   generalize xs.getD (k - 1) 0 = x, ys.getD (k - 1) 0 = y at *
   have b0 : (0 : Int) ≤ (k : Int) - 1 := (by omega); have b1 : (k : Int) - 1 < (xs.length : Int) := (by omega); have b2 : (k : Int) - 1 < (ys.length : Int) := (by omega)
   by_cases hl : y < x
   ·have HN := hgt2 hl
    clear hlt2 hgt2 heq2 hra hrb; go_wp2
    go_quiet (fail)
    go_wp2; go_ret
    exact ⟨by rw [HN.out]; rfl, Be hB _⟩
   by_cases hg : x < y
   ·have HN := hlt2 hg
    clear hlt2 hgt2 heq2 hra hrb; go_wp2
    go_quiet (fail)
    go_wp2
    go_quiet (fail)
    go_wp2; go_ret
    exact ⟨by rw [HN.out]; rfl, Be (Be hB _) _⟩
   ·have HN := heq2 (by omega)
    clear hlt2 hgt2 heq2 hra hrb; go_wp2
    go_quiet (fail)
    go_wp2
    go_quiet (fail)
    go_wp2
    go_roundw
    case rel => exact ⟨k - 1, by omega, by go_num, Be hB _, HN⟩
    case measure => simp [intOf]; omega
  ·have HN := Lib.hid (HCV.out.symm.trans (H0 (m := val xs) (n := val ys) (by rw [Oi HL.out (fun j hj => hE.out j (by omega) hj)]))); go_wp2; go_ret
   exact ⟨by rw [HN.out]; rfl, hB⟩
end
section
theorem Xu (w : World) (a : Option Addr) (cap : Nat) (l : List Nat) (hc : l.length ≤ cap) (hcm : cap ≤ 9223372036854775807) (hd : Dig l) (hr : C5 w a l) :
  Calls Tryz.prog 107 #[.slice a l.length cap] w fun e w' => e = .returned (.slice a (nf (val l)).length cap) ∧ w = w' := by
 go_enter Tryz.func107, Tryz.ntmps107; go_wp2
 go_loop [3] (fun v => ∃ k : Nat, k ≤ l.length ∧ v = .int .i64 k ∧ Hid (val (l.take k) = val l)) (fun v => (intOf v).toNat)
 case atStart => exact ⟨l.length, Nat.le_refl _, rfl, by show _ = _; rw [List.take_length]⟩
 case round =>
  obtain ⟨k, hk, rfl, hv⟩ := hrel
  by_cases h0 : k = 0
  ·subst h0
   have e := Ig hd hk hv.out (.inl rfl)
   have e2 : (nf (val l)).length = 0 := by rw [e]; simp
   have E2 := Lib.hid e2; clear e e2; go_wp2; go_ret
   exact ⟨by rw [E2.out]; rfl, rfl⟩
  ·obtain ⟨b, off, rfl, hcell⟩ := hr (by omega); have h1 : 0 < k := (by omega)
   have hc1 := hcell (k - 1) (by omega)
   clear hcell
   by_cases hz : l.getD (k - 1) 0 = 0
   ·have hv2 : val (l.take (k - 1)) = val l := by
     have := Ds l (k - 1) (by omega)
     rw [Nat.sub_add_cancel h1, hz, Nat.mul_zero, Nat.add_zero, hv.out] at this; exact this.symm
    have HV := Lib.hid hv2
    generalize l.getD (k - 1) 0 = d at *
    have hz' := Zu hz
    clear hz hv hv2; go_wp2
    go_round
    case rel => exact ⟨k - 1, by omega, by go_num, HV⟩
    case measure => simp [intOf]; omega
   ·have e := Ig hd hk hv.out (.inr hz)
    have e2 : (nf (val l)).length = k := by rw [e, List.length_take]; omega
    have E2 := Lib.hid e2
    generalize l.getD (k - 1) 0 = d at *
    have hz' := Tf hz
    clear e e2 hz hv; go_wp2; go_ret
    exact ⟨by rw [E2.out]; rfl, rfl⟩
theorem Eg (w : World) (base : Nat) (v : Value) (l : List Nat) (h : Own w base v l) :
  Calls Tryz.prog 107 #[v] w fun e w' => ∃ v', e = .returned v' ∧ Own w base v' (nf (val l)) ∧ w = w' := by
 rcases h.shape with ⟨rfl, rfl⟩ | ⟨g, cap, rfl, h1, h2, h3, h4, h5, _⟩
 ·refine (Xu w none 0 [] (Nat.le_refl _) (by omega) Bv (fun h => absurd h (by simp))).mono ?_
  rintro e w' ⟨rfl, rfl⟩
  exact ⟨_, rfl, Own.nil _ _, rfl⟩
 ·refine (Xu w _ cap l h3 h4 h.1 (fun _ => ⟨g, 0, rfl, fun i hi => by rw [Nat.zero_add]; exact h5 i hi⟩)).mono ?_
  rintro e w' ⟨rfl, rfl⟩
  refine ⟨_, rfl, ?_, rfl⟩
  have := Own.take h (nf (val l)).length (Dr h.1)
  rw [← Sd h.1] at this; exact this
theorem Qkq (w : World) (base : Nat) (v : Value) (l : List Nat) (h : Own w base v l) :
  Calls Tryz.prog 206 #[v] w fun e w' => ∃ v', e = .returned v' ∧ Own w base v' (nf (val l)) ∧ w = w' := by
 rcases h.shape with ⟨rfl, rfl⟩ | ⟨g, cap, rfl, h1, h2, h3, h4, h5, _⟩
 ·refine (Qt w none 0 [] (Nat.le_refl _) (by omega) Bv (fun h => absurd h (by simp))).mono ?_
  rintro e w' ⟨rfl, rfl⟩
  exact ⟨_, rfl, Own.nil _ _, rfl⟩
 ·exact Gi w base g cap l.length l h rfl
theorem Zq (w : World) (v : Value) (l : List Nat) (h : Rd w v l) (hl : l.length ≤ 1000000) :
  Calls Tryz.prog 207 #[v] w fun e w' => ∃ z, e = .returned z ∧ Own w' w.heap.size z l ∧ Below w.heap.size w w' := by
 have hR := h
 obtain ⟨a, cap, rfl, hc, hcm, hd, hr⟩ := h
 have hnil : ∀ w n c, (binOp .eql 45 (.slice a n c) (.slice none 0 0)).run Tryz.prog w = .ok (.bool a.isNone) w := fun w n c => Lib.run_eql_slice_nil w 45 204 a n c 0 0 Tryz.underlying45
 rcases a with _ | ad
 ·have hl0 : l = [] := by
   rcases Nat.eq_zero_or_pos l.length with h0 | h0
   ·exact List.eq_nil_of_length_eq_zero h0
   ·obtain ⟨b, off, e, _⟩ := hr h0
    cases e
  subst hl0; go_enter Tryz.func207, Tryz.ntmps207; go_wp2; go_ret; exact ⟨_, rfl, Own.nil _ _, Below.refl _ _⟩
 ·go_enter Tryz.func207, Tryz.ntmps207
  go_wp2_with (at_builtin; go_loud (refine Gx _ rfl (.tmp 5) (.tmp 6) 45 45 rfl Tryz.underlying45 Tryz.underlying45 w.heap.size _ _ [] l rfl rfl (Ca w [] Bv (by simp) _ rfl) (hR.keep ((Below.refl _ _).alloc (Nat.le_refl _) _)) (by simp; omega) (by simp) ?_); intro v1 w1 o1 g1 _)
  go_ret; exact ⟨_, rfl, o1, Gh (Ca w [] Bv (by simp) _ rfl) ((Below.refl _ _).alloc (Nat.le_refl _) _) g1 (Nat.le_refl _)⟩
theorem P7 (w : World) (v : Value) (l : List Nat) (h : Rd w v l) (hl : l.length ≤ 1000000) :
  Calls Tryz.prog 164 #[v] w fun e w' => ∃ z, e = .returned z ∧ Own w' w.heap.size z (nf (val l)) ∧ Below w.heap.size w w' := by
 have hle := Dr h.dig
 go_enter Tryz.func164, Tryz.ntmps164; go_wp2_with fail
 refine (D3 _ _ _ h).mono ?_
 rintro e w1 ⟨v', rfl, h', rfl⟩
 go_wp2_with fail
 refine (Zq _ _ _ h' (by omega)).mono ?_
 rintro e w1 ⟨z, rfl, ho, hb⟩
 go_wp2; go_ret; exact ⟨_, rfl, ho, hb⟩
theorem Qff (w : World) (v : Value) (l : List Nat) (h : Rd w v l) (hl : l.length ≤ 1000000) :
  Calls Tryz.prog 71 #[v] w fun e w' => ∃ z, e = .returned z ∧ Own w' w.heap.size z (nf (val l)) ∧ Below w.heap.size w w' := by
 have hB0 : Below w.heap.size w (w.alloc (.cells #[] 204)) := (Below.refl _ _).alloc (Nat.le_refl _) _
 go_enter Tryz.func71, Tryz.ntmps71
 go_wp2_with (at_builtin; go_loud (refine Gx _ rfl (.tmp 3) (.tmp 4) 25 45 rfl Tryz.underlying25 Tryz.underlying45 w.heap.size _ _ [] l rfl rfl (Ca w [] Bv (by simp) _ rfl) (h.keep hB0) (by simp; omega) (by simp) ?_); intro v1 w1 o1 g1 _)
 have hB1 := Gh (Ca w [] Bv (by simp) _ rfl) hB0 g1 (Nat.le_refl _)
 refine (Eg _ _ _ _ o1).mono ?_
 rintro e w2 ⟨z, rfl, ho, rfl⟩
 go_wp2; go_ret; exact ⟨_, rfl, ho, hB1⟩
theorem Qmi (w : World) (v : Value) (l : List Nat) (h : Rd w v l) (hl : l.length ≤ 1000000) :
  Calls Tryz.prog 33 #[v] w fun e w' => ∃ z, e = .returned z ∧ Own w' w.heap.size z l ∧ Below w.heap.size w w' := by
 have hB0 : Below w.heap.size w (w.alloc (.cells #[] 204)) := (Below.refl _ _).alloc (Nat.le_refl _) _
 go_enter Tryz.func33, Tryz.ntmps33
 go_wp2_with (at_builtin; go_loud (refine Gx _ rfl (.tmp 3) (.tmp 4) 45 26 rfl Tryz.underlying45 Tryz.underlying26 w.heap.size _ _ [] l rfl rfl (Ca w [] Bv (by simp) _ rfl) (h.keep hB0) (by simp; omega) (by simp) ?_); intro v1 w1 o1 g1 _)
 go_ret; exact ⟨_, rfl, o1, Gh (Ca w [] Bv (by simp) _ rfl) hB0 g1 (Nat.le_refl _)⟩
theorem Zk {u : Nat} (hu : u < 18446744073709551616) : Dig [u % 4294967296, u / 4294967296] ∧ val [u % 4294967296, u / 4294967296] = u := by
 refine ⟨Jm (by omega) (Jm (by omega) Bv), ?_⟩
 rw [Bp, Bp, Ay]; omega
theorem Q3 (w : World) (u : Nat) (hu : u < 18446744073709551616) :
  Calls Tryz.prog 165 #[.int .u64 (u : Int)] w fun e w' => ∃ z, e = .returned z ∧ Own w' w.heap.size z (nf u) ∧ Below w.heap.size w w' := by
 have h2 := Zk hu
 have e1 : #[Value.int .u32 ((u : Int) % 4294967296), Value.int .u32 ((u : Int) / 4294967296)] = ([u % 4294967296, u / 4294967296].map dv).toArray := by
  show _ = #[Value.int .u32 ((u % 4294967296 : Nat) : Int), Value.int .u32 ((u / 4294967296 : Nat) : Int)]
  rw [Int.natCast_emod, Int.natCast_ediv]; rfl
 have ho := Ca w _ h2.1 (by simp) _ e1
 have HV := Lib.hid h2.2; have HO := Lib.hid ho; clear e1 h2 ho; go_enter Tryz.func165, Tryz.ntmps165; go_wp2_with fail
 refine (Qkq _ _ _ _ HO.out).mono ?_
 rintro e w1 ⟨z, rfl, ho, rfl⟩
 rw [HV.out] at ho; go_wp2; go_ret; exact ⟨_, rfl, ho, (Below.refl _ _).alloc (Nat.le_refl _) _⟩
theorem Jc (w : World) (u : Nat) (hu : u < 18446744073709551616) :
  Calls Tryz.prog 100 #[.int .u64 (u : Int)] w fun e w' => ∃ z, e = .returned z ∧ Own w' w.heap.size z (nf u) ∧ Below w.heap.size w w' := by
 have h2 := Zk hu
 have e1 : #[Value.int .u32 ((u : Int) % 4294967296), Value.int .u32 ((u : Int) / 4294967296)] = ([u % 4294967296, u / 4294967296].map dv).toArray := by
  show _ = #[Value.int .u32 ((u % 4294967296 : Nat) : Int), Value.int .u32 ((u / 4294967296 : Nat) : Int)]
  rw [Int.natCast_emod, Int.natCast_ediv]; rfl
 have ho := Ca w _ h2.1 (by simp) _ e1
 have HV := Lib.hid h2.2; have HO := Lib.hid ho; clear e1 h2 ho; go_enter Tryz.func100, Tryz.ntmps100; go_wp2_with fail
 refine (Eg _ _ _ _ HO.out).mono ?_
 rintro e w1 ⟨z, rfl, ho, rfl⟩
 rw [HV.out] at ho; go_wp2; go_ret; exact ⟨_, rfl, ho, (Below.refl _ _).alloc (Nat.le_refl _) _⟩
theorem Ud (d : Nat) (hd : d < 18446744073709551616) : bits .or .u64 0 (d : Int) = (d : Int) := by
 have := u64_or_nat 0 d (by omega) hd
 rw [Nat.zero_or] at this; exact this
theorem N0 (x y : Nat) (hx : x < 4294967296) (hy : y < 4294967296) : bits .or .u64 (x : Int) ((y : Int) * 4294967296) = ((x + 4294967296 * y : Nat) : Int) := by
 have e : x ||| y * 4294967296 = x + 4294967296 * y := by
  have := Nat.two_pow_add_eq_or_of_lt (i := 32) (b := x) (by simpa using hx) y
  rw [Nat.or_comm, Nat.mul_comm y, Nat.add_comm]; exact this.symm
 have h := u64_or_nat x (y * 4294967296) (by omega) (by omega)
 rw [e] at h; rw [← h]
 congr 1
theorem Ii (x y : Nat) (hx : x < 4294967296) (hy : y < 4294967296) : bits .or .u64 ((y : Int) * 4294967296) (x : Int) = ((x + 4294967296 * y : Nat) : Int) := by
 have e : y * 4294967296 ||| x = x + 4294967296 * y := by
  have := Nat.two_pow_add_eq_or_of_lt (i := 32) (b := x) (by simpa using hx) y
  rw [Nat.mul_comm y, Nat.add_comm]; exact this.symm
 have h := u64_or_nat (y * 4294967296) x (by omega) (by omega)
 rw [e] at h; rw [← h]
 congr 1
def Dx (n : Nat) : Value := .tuple #[.int .u64 ((if n < 18446744073709551616 then n else 0 : Nat) : Int), .bool (decide (n < 18446744073709551616))]
variable {n : Nat}
theorem Cv (h : n < 18446744073709551616) : Dx n = .tuple #[.int .u64 (n : Int), .bool true] := by
 unfold Dx; rw [if_pos h, decide_eq_true h]
theorem Hu (h : 18446744073709551616 ≤ n) : Dx n = .tuple #[.int .u64 0, .bool false] := by
 unfold Dx; rw [if_neg (by omega), decide_eq_false (by omega)]; rfl
theorem Xd (n : Nat) : (n = 0 ∧ nf n = []) ∨ (∃ d0, d0 < 4294967296 ∧ n = d0 ∧ nf n = [d0]) ∨ (∃ d0 d1, d0 < 4294967296 ∧ d1 < 4294967296 ∧ n = d0 + 4294967296 * d1 ∧ nf n = [d0, d1]) ∨ (18446744073709551616 ≤ n ∧ 3 ≤ (nf n).length) := by
 have hv := Ah n
 have hd := B9 n
 match h : nf n, hv, hd with
 | [], hv, hd => exact .inl ⟨hv.symm, rfl⟩
 | [d], hv, hd =>
  rw [Bp, Ay] at hv
  have h0 := hd d (by simp)
  obtain rfl : d = n := by omega
  exact .inr (.inl ⟨_, h0, rfl, rfl⟩)
 | [d0, d1], hv, hd =>
  rw [Bp, Bp, Ay] at hv; exact .inr (.inr (.inl ⟨d0, d1, hd d0 (by simp), hd d1 (by simp), by omega, rfl⟩))
 | d0 :: d1 :: d2 :: l, hv, hd =>
  refine .inr (.inr (.inr ⟨?_, by simp⟩))
  rcases Nat.lt_or_ge n 18446744073709551616 with hlt | hge
  ·have := Bi (n := n) (k := 2) (by simpa using hlt)
   rw [h] at this; simp at this
  ·exact hge
theorem R3 (w : World) (v : Value) (l : List Nat) (h : Rd w v l) :
  Calls Tryz.prog 192 #[v] w fun e w' => e = .returned (Dx (val l)) ∧ w = w' := by
 go_enter Tryz.func192, Tryz.ntmps192; go_wp2_with fail
 refine (D3 _ _ _ h).mono ?_
 rintro e w1 ⟨v', rfl, h', rfl⟩
 obtain ⟨a, cap, hv, hc, hcm, hd, hr⟩ := h'
 rcases Xd (val l) with ⟨hn, hl⟩ | ⟨d0, b0, hn, hl⟩ | ⟨d0, d1, b0, b1, hn, hl⟩ | ⟨hn, hl⟩
 ·rw [hl] at hv; subst hv
  have HN := Lib.hid (show Dx (val l) = .tuple #[.int .u64 0, .bool true] by rw [hn]; exact Cv (by omega))
  clear hn hl hc hd hr; go_wp2
  refine wp_loop_rounds 1 ?_
  rw [rounds_succ]; go_wp2; go_ret2
  exact ⟨by rw [HN.out]; rfl, rfl⟩
 ·rw [hl] at hv hc hd hr; subst hv; obtain ⟨b, off, rfl, hcell⟩ := hr (by simp)
  have c0 := hcell 0 (by simp)
  have HN := Lib.hid (show Dx (val l) = .tuple #[.int .u64 (d0 : Int), .bool true] by rw [hn]; exact Cv (by omega))
  simp only [List.length_cons, List.length_nil, Nat.reduceAdd, List.getD_eq_getElem?_getD, List.getElem?_cons_zero, Option.getD_some, Nat.add_zero] at c0 hc ⊢
  have ho := Ud d0 (by omega)
  clear hcell hn hl hr hd; go_wp2
  refine wp_loop_rounds 2 ?_
  rw [rounds_succ]; go_wp2; rw [rounds_succ]; go_wp2; go_ret2
  exact ⟨by rw [HN.out]; rfl, rfl⟩
 ·rw [hl] at hv hc hd hr; subst hv; obtain ⟨b, off, rfl, hcell⟩ := hr (by simp)
  have c0 := hcell 0 (by simp)
  have c1 := hcell 1 (by simp)
  have HN := Lib.hid (show Dx (val l) = .tuple #[.int .u64 ((d0 : Int) + 4294967296 * (d1 : Int)), .bool true] by rw [hn, Cv (by omega)]; rfl)
  simp only [List.length_cons, List.length_nil, Nat.reduceAdd, List.getD_eq_getElem?_getD, List.getElem?_cons_zero, List.getElem?_cons_succ, Option.getD_some, Nat.add_zero] at c0 c1 hc ⊢
  have ho := Ud d0 (by omega)
  have ho2 := N0 d0 d1 b0 b1
  clear hcell hn hl hr hd; go_wp2
  refine wp_loop_rounds 3 ?_
  rw [rounds_succ]; go_wp2; rw [rounds_succ]; go_wp2; rw [rounds_succ]; go_wp2; go_ret2
  exact ⟨by rw [HN.out]; rfl, rfl⟩
 ·subst hv; have HN := Lib.hid (Hu hn)
  generalize (nf (val l)).length = n at *
  have h2 : ((2 : Int) < (n : Int)) := (by omega); clear hn hr hd; go_wp2; go_ret2
  exact ⟨by rw [HN.out]; rfl, rfl⟩
end
end Go.Proofs.YtpnpnlmlamfpmaaGreatDoor
