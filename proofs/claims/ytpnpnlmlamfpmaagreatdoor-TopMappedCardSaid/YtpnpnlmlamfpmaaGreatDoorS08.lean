import Derived.Test.YtpnpnlmlamfpmaaGreatDoorS03
namespace Go.Proofs.YtpnpnlmlamfpmaaGreatDoor
open Go.RowKit
set_option maxHeartbeats 40000000
set_option maxRecDepth 100000
set_option synthInstance.maxHeartbeats 1000000
set_option synthInstance.maxSize 100000
section
def blen (x : Nat) : Nat := Lib.bitLen x
theorem Ra : ∀ (f x : Nat), x < 2 ^ f → Lib.bitLenAux f x ≤ f ∧ x < 2 ^ Lib.bitLenAux f x ∧ (x ≠ 0 → 0 < Lib.bitLenAux f x ∧ 2 ^ (Lib.bitLenAux f x - 1) ≤ x)
 | 0, x, h => by
  have : x = 0 := by simpa using h
  subst this
  exact ⟨Nat.le_refl _, by decide, fun h => absurd rfl h⟩
 | f + 1, x, h => by
  unfold Lib.bitLenAux
  by_cases h0 : x = 0
  ·rw [if_pos h0]; subst h0
   exact ⟨by omega, by decide, fun h => absurd rfl h⟩
  ·rw [if_neg h0]; rw [Nat.pow_succ] at h; obtain ⟨h1, h2, h3⟩ := Ra f (x / 2) (by omega)
   have hz : x / 2 = 0 → Lib.bitLenAux f (x / 2) = 0 := fun e => by
    rw [e]; cases f <;> simp [Lib.bitLenAux]
   generalize Lib.bitLenAux f (x / 2) = b at *
   refine ⟨by omega, ?_, fun _ => ⟨by omega, ?_⟩⟩
   ·rw [Nat.add_comm 1 b, Nat.pow_succ]; omega
   ·rw [Nat.add_sub_cancel_left]
    by_cases hx : x / 2 = 0
    ·have hb : b = 0 := hz hx
     rw [hb]; simp; omega
    ·obtain ⟨h4, h5⟩ := h3 hx
     obtain ⟨c, rfl⟩ : ∃ c, b = c + 1 := ⟨b - 1, by omega⟩
     rw [Nat.add_sub_cancel] at h5
     rw [Nat.pow_succ]; omega
variable {x : Nat}
theorem Sw (h : x < 18446744073709551616) : x < 2 ^ blen x := (Ra 64 x (by simpa using h)).2.1
theorem Ny (h : x < 18446744073709551616) (h0 : x ≠ 0) : 0 < blen x ∧ 2 ^ (blen x - 1) ≤ x := (Ra 64 x (by simpa using h)).2.2 h0
theorem Qn (h : x < 4294967296) : blen x ≤ 32 := Lib.bitLen_le x 32 (by omega) (by simpa using h)
theorem Qfe (w : World) (x : Int) (h0 : 0 ≤ x) (h1 : x ≤ 4294967295) :
  Calls Tryz.prog 226 #[.int .u32 x] w fun e w' => e = .returned (.int .i64 (Lib.bitLen x.toNat)) ∧ w = w' := by
 by_cases c1 : x < 65536
 ·by_cases c2 : x < 256
  ·have d1 : x ≤ 255 := by omega
   have e := Lib.len8_of x h0 d1
   have l := Lib.bitLen_le8' x h0 d1
   have b0 : 0 ≤ Lib.len8 x := (by omega); have b1 : Lib.len8 x ≤ 8 := (by omega); have E := Lib.hid e; clear e l; go_enter Tryz.func226, Tryz.ntmps226; go_wp2; go_ret
   exact ⟨by rw [← E.out]; rfl, rfl⟩
  ·have d0 : 0 ≤ x / 256 := by omega
   have d1 : x / 256 ≤ 255 := (by omega)
   have e := Lib.len8_of _ d0 d1
   have l := Lib.bitLen_le8' _ d0 d1
   have s := Lib.bitLen_shift8 x.toNat (by omega) (by omega)
   have t : (x / 256).toNat = x.toNat / 256 := (by omega); rw [t] at e l; have b0 : 0 ≤ Lib.len8 (x / 256) := (by omega); have b1 : Lib.len8 (x / 256) ≤ 8 := (by omega); have f : (Lib.bitLen x.toNat : Int) = 8 + Lib.len8 (x / 256) := (by omega); have E := Lib.hid f; clear e l s t f; go_enter Tryz.func226, Tryz.ntmps226; go_wp2; go_ret
   exact ⟨by rw [E.out]; rfl, rfl⟩
 ·by_cases c2 : x / 65536 < 256
  ·have d0 : 0 ≤ x / 65536 := by omega
   have d1 : x / 65536 ≤ 255 := (by omega)
   have e := Lib.len8_of _ d0 d1
   have l := Lib.bitLen_le8' _ d0 d1
   have s := Lib.bitLen_shift16 x.toNat (by omega) (by omega)
   have t : (x / 65536).toNat = x.toNat / 65536 := (by omega); rw [t] at e l; have b0 : 0 ≤ Lib.len8 (x / 65536) := (by omega); have b1 : Lib.len8 (x / 65536) ≤ 8 := (by omega); have f : (Lib.bitLen x.toNat : Int) = 16 + Lib.len8 (x / 65536) := (by omega); have E := Lib.hid f; clear e l s t f; go_enter Tryz.func226, Tryz.ntmps226; go_wp2; go_ret
   exact ⟨by rw [E.out]; rfl, rfl⟩
  ·have d0 : 0 ≤ x / 65536 / 256 := by omega
   have d1 : x / 65536 / 256 ≤ 255 := (by omega)
   have e := Lib.len8_of _ d0 d1
   have l := Lib.bitLen_le8' _ d0 d1
   have s := Lib.bitLen_shift24 x.toNat (by omega) (by omega)
   have t : (x / 65536 / 256).toNat = x.toNat / 16777216 := (by omega); rw [t] at e l; have b0 : 0 ≤ Lib.len8 (x / 65536 / 256) := (by omega); have b1 : Lib.len8 (x / 65536 / 256) ≤ 8 := (by omega); have f : (Lib.bitLen x.toNat : Int) = 24 + Lib.len8 (x / 65536 / 256) := (by omega); have E := Lib.hid f; clear e l s t f; go_enter Tryz.func226, Tryz.ntmps226; go_wp2; go_ret
   exact ⟨by rw [E.out]; rfl, rfl⟩
theorem Qmf (w : World) (x : Nat) (h : x < 4294967296) :
  Calls Tryz.prog 226 #[.int .u32 (x : Int)] w fun e w' => e = .returned (.int .i64 ((blen x : Nat) : Int)) ∧ w = w' :=
 Qfe w x (by omega) (by omega)
theorem Qu (w : World) (x : Nat) (h : x < 4294967296) :
  Calls Tryz.prog 195 #[.int .u32 (x : Int)] w fun e w' => e = .returned (.int .i64 (32 - (blen x : Int))) ∧ w = w' := by
 have hb := Qn h
 go_enter Tryz.func195, Tryz.ntmps195; go_wp2_with fail
 refine (Qmf _ _ h).mono ?_
 rintro e w1 ⟨rfl, rfl⟩
 go_wp2; go_ret; exact ⟨rfl, rfl⟩
def nbits (n : Nat) : Nat := if n = 0 then 0 else 32 * ((nf n).length - 1) + blen ((nf n).getD ((nf n).length - 1) 0)
theorem Qjz : nbits 0 = 0 := rfl
theorem Mi {n : Nat} (h : n ≠ 0) : nbits n = 32 * ((nf n).length - 1) + blen ((nf n).getD ((nf n).length - 1) 0) := by unfold nbits; rw [if_neg h]
theorem Qkj (w : World) (v : Value) (l : List Nat) (h : Rd w v l) (hl : l.length ≤ 1000000) :
  Calls Tryz.prog 168 #[v] w fun e w' => e = .returned (.int .i64 ((nbits (val l) : Nat) : Int)) ∧ w = w' := by
 have hle := Dr h.dig
 go_enter Tryz.func168, Tryz.ntmps168; go_wp2_with fail
 refine (D3 _ _ _ h).mono ?_
 rintro e w1 ⟨v', rfl, h', rfl⟩
 obtain ⟨a, cap, rfl, hc, hcm, hd, hr⟩ := h'
 by_cases hn : val l = 0
 ·have HN := Lib.hid (show nbits (val l) = 0 by rw [hn]; rfl)
  have h0 : (nf (val l)).length = 0 := by rw [hn]; rfl
  have hb : (((nf (val l)).length : Int) == 0) = true := by rw [h0]; rfl
  clear hn hd hr hc hle
  generalize (nf (val l)).length = n at *
  subst h0; go_wp2; go_ret
  exact ⟨by rw [HN.out]; rfl, rfl⟩
 ·have HN := Lib.hid (Mi hn)
  have hp := Bw hn
  obtain ⟨b, off, rfl, hcell⟩ := hr hp
  have hb : (((nf (val l)).length : Int) == 0) = false := by rw [beq_eq_false_iff_ne]; omega
  have c0 := hcell ((nf (val l)).length - 1) (by omega)
  have hx := An hd ((nf (val l)).length - 1)
  generalize (nf (val l)).getD ((nf (val l)).length - 1) 0 = x at *; generalize (nf (val l)).length = n at *
  have hbl := Qn hx
  clear hn hd hr hcell
  go_wp2_with (go_at_call 195; refine (Qu _ _ hx).mono ?_; rintro e w' ⟨rfl, rfl⟩)
  go_ret
  refine ⟨?_, rfl⟩
  rw [HN.out]; have e : (32 * (n : Int) - (32 - (blen x : Int))) = ((32 * (n - 1) + blen x : Nat) : Int) := (by omega); exact congrArg (fun i => Ending.returned (.int .i64 i)) e
def Cz (l : List Nat) : Bool := decide (l.length = 0) || decide (l.getD (l.length - 1) 0 ≠ 0)
theorem Qh4 {l : List Nat} (h : l.length = 0) : Cz l = true := by simp [Cz, h]
theorem Wk {l : List Nat} (h : l.getD (l.length - 1) 0 ≠ 0) : Cz l = true := by simp only [Cz, h, decide_true, Bool.or_true, ne_eq, not_false_eq_true]
theorem Qgj {l : List Nat} (h : 0 < l.length) (h0 : l.getD (l.length - 1) 0 = 0) : Cz l = false := by
 simp only [Cz, h0, ne_eq, not_true_eq_false, decide_false, Bool.or_false, decide_eq_false_iff_not]; omega
theorem Qk2 (w : World) (v : Value) (l : List Nat) (h : Rd w v l) :
  Calls Tryz.prog 167 #[v] w fun e w' => e = .returned (.bool (Cz l)) ∧ w = w' := by
 obtain ⟨a, cap, rfl, hc, hcm, hd, hr⟩ := h
 by_cases h0 : l.length = 0
 ·have HN := Lib.hid (Qh4 h0)
  generalize l.length = n at *
  subst h0; go_enter Tryz.func167, Tryz.ntmps167; go_wp2; go_ret
  exact ⟨by rw [HN.out]; rfl, rfl⟩
 ·obtain ⟨b, off, rfl, hcell⟩ := hr (by omega)
  have hb : ((l.length : Int) == 0) = false := by rw [beq_eq_false_iff_ne]; omega
  have c0 := hcell (l.length - 1) (by omega)
  have hp : 0 < l.length := (by omega)
  have hx := An hd (l.length - 1)
  have h1 := @Wk l
  have h2 := @Qgj l hp
  generalize l.getD (l.length - 1) 0 = x at *
  clear hcell hr
  by_cases hz : x = 0
  ·have HN := Lib.hid (h2 hz)
   have hz' : ((x : Int) != 0) = false := by subst hz; rfl
   clear h1 h2 hz; go_enter Tryz.func167, Tryz.ntmps167; go_wp2; go_ret
   exact ⟨by rw [HN.out]; rfl, rfl⟩
  ·have HN := Lib.hid (h1 hz)
   have hz' : ((x : Int) != 0) = true := by rw [bne_iff_ne]; omega
   clear h1 h2 hz; go_enter Tryz.func167, Tryz.ntmps167; go_wp2; go_ret
   exact ⟨by rw [HN.out]; rfl, rfl⟩
end
theorem Yy {la lb L : List Nat} {c k d c' x y : Nat} (hL : L.length = la.length) (hz : ∀ j, k ≤ j → L.getD j 0 = 0) (hk : k < la.length) (hx : la.getD k 0 = x)
  (h : val L + val (lb.take k) = val (la.take k) + 4294967296 ^ k * c) (hy : (k < lb.length ∧ lb.getD k 0 = y) ∨ (lb.length ≤ k ∧ y = 0)) (hd : d + y + c = x + 4294967296 * c') :
  (∀ j, k + 1 ≤ j → (L.set k d).getD j 0 = 0) ∧ val (L.set k d) + val (lb.take (k + 1)) = val (la.take (k + 1)) + 4294967296 ^ (k + 1) * c' := by
 have hb : val (lb.take (k + 1)) = val (lb.take k) + 4294967296 ^ k * y := by
  rcases hy with ⟨hy, rfl⟩ | ⟨hy, rfl⟩
  ·exact Ds lb k hy
  ·rw [List.take_of_length_le (by omega), List.take_of_length_le hy]; simp
 have h2 := Qfd (L := L) (A := val (la.take k)) (C := val (lb.take k)) (j := k) (c := c) (c' := c') (d := d) (x := x) (y := y) (by omega) (hz k (Nat.le_refl _)) h hd
 refine ⟨fun j hj => ?_, ?_⟩
 ·rw [Cq _ _ _ _ (by omega)]; exact hz j (by omega)
 ·rw [hb, Ds la k hk, hx, h2]
theorem Sx {la lb L : List Nat} {c : Nat} (hdL : Dig L) (hL : L.length = la.length) (hlen : lb.length ≤ la.length) (hle : val lb ≤ val la)
  (h : val L + val (lb.take la.length) = val (la.take la.length) + 4294967296 ^ la.length * c) : val L = val la - val lb := by
 rw [List.take_length, List.take_of_length_le hlen] at h
 have h1 := C9 L hdL
 rw [hL] at h1
 rcases Nat.eq_zero_or_pos c with h0 | h0
 ·subst h0; omega
 ·exfalso
  have : 4294967296 ^ la.length * 1 ≤ 4294967296 ^ la.length * c := Nat.mul_le_mul_left _ h0
  omega
theorem Xy (z : Int) (h1 : -18446744073709551616 ≤ z) (h2 : z < 0) : IntKind.u64.wrap z = z + 18446744073709551616 := by
 rw [IntKind.wrap_u64]; omega
theorem Qmb (w : World) (a b : Option Addr) (capa capb : Nat) (la lb : List Nat) (hlen : lb.length ≤ la.length) (hle : val lb ≤ val la) (hla : la.length ≤ 1000000)
  (hda : Dig la) (hdb : Dig lb) (hra : C5 w a la) (hrb : C5 w b lb) :
  Calls Tryz.prog 228 #[.slice a la.length capa, .slice b lb.length capb] w fun e w' => ∃ v, e = .returned v ∧ Own w' w.heap.size v (nf (val la - val lb)) ∧ Below w.heap.size w w' := by
 have HLE := Lib.hid hle; clear hle; go_enter Tryz.func228, Tryz.ntmps228
 go_wp2_with (at_make; go_loud (refine Dg _ rfl (.tmp 12) (.tmp 12) 45 rfl Tryz.underlying45 _ _ la.length rfl rfl (by omega) (by omega) (by omega) ?_); intro w1 R0 B0)
 go_loopw [6, 16] (fun c i wr => ∃ (k cn : Nat) (L : List Nat), k ≤ la.length ∧ i = .int .i64 k ∧ c = .int .u64 cn ∧ cn ≤ 1 ∧ Row wr w.heap.size w.heap.size la.length L ∧ Hid (L.length = la.length) ∧ Below w.heap.size w wr ∧
   Hid (∀ j, k ≤ j → L.getD j 0 = 0) ∧ Hid (val L + val (lb.take k) = val (la.take k) + 4294967296 ^ k * cn)) (fun _ i _ => la.length - (intOf i).toNat)
 case atStart => exact ⟨0, 0, _, Nat.zero_le _, rfl, rfl, by omega, R0, by show _ = _; simp, B0, fun j _ => C3 _ _, by show _ = _; simp [Dc, Ay]⟩
 case round =>
  obtain ⟨k, cn, L, hk, rfl, rfl, hcn, hR, hL, hB, hz, hv⟩ := hrel
  have hRc := hR.cap
  have hRl := hR.lt
  by_cases hlt : k < la.length
  ·obtain ⟨ba, offa, rfl, cA⟩ := hra.at hB hlt
   have hst := fun x y d c' => @Yy la lb L cn k d c' x y hL.out hz.out hlt
   have cR := hR.cell (j := k) (by rw [hL.out]; omega)
   have fR := hR.free k
   have hx := An hda k
   generalize hgx : la.getD k 0 = x at *
   have hst := fun y d c' => hst x y d c' rfl hv.out
   clear hgx
   generalize L.getD k 0 = z at *
   by_cases hltb : k < lb.length
   ·obtain ⟨bb, offb, rfl, cB⟩ := hrb.at hB hltb
    have hy := An hdb k
    generalize hgy : lb.getD k 0 = y at *
    have hst := fun d c' => hst y d c' (.inl ⟨hltb, rfl⟩)
    clear hgy
    by_cases hge : cn + y ≤ x
    ·have HST := Lib.hid (hst (x - y - cn) 0 (by omega)); clear hst hra hrb; go_wp2
     go_roundw
     case rel =>
      obtain ⟨s1, s2⟩ := HST.out
      rw [show ((x : Int) - ((cn : Int) + (y : Int))) = ((x - y - cn : Nat) : Int) by omega]
      exact ⟨k + 1, 0, _, by omega, by go_num, by go_num, by omega, hR.set k (by omega), by show _ = _; rw [List.length_set]; exact hL.out, hB.setCell (Nat.le_refl _) _, s1, s2⟩
     case measure => simp [intOf]; omega
    ·have HST := Lib.hid (hst (x + 4294967296 - y - cn) 1 (by omega)); clear hst hra hrb; go_wp2
     go_roundw
     case rel =>
      obtain ⟨s1, s2⟩ := HST.out
      rw [Xy _ (by omega) (by omega), show (((x : Int) - ((cn : Int) + (y : Int))) + 18446744073709551616) % 4294967296 = ((x + 4294967296 - y - cn : Nat) : Int) by omega]
      exact ⟨k + 1, 1, _, by omega, by go_num, by go_num, by omega, hR.set k (by omega), by show _ = _; rw [List.length_set]; exact hL.out, hB.setCell (Nat.le_refl _) _, s1, s2⟩
     case measure => simp [intOf]; omega
   ·have hst := fun d c' => hst 0 d c' (.inr ⟨by omega, rfl⟩)
    by_cases hge : cn ≤ x
    ·have HST := Lib.hid (hst (x - 0 - cn) 0 (by omega)); clear hst hra hrb; go_wp2
     go_roundw
     case rel =>
      obtain ⟨s1, s2⟩ := HST.out
      rw [show ((x : Int) - (cn : Int)) = ((x - 0 - cn : Nat) : Int) by omega]
      exact ⟨k + 1, 0, _, by omega, by go_num, by go_num, by omega, hR.set k (by omega), by show _ = _; rw [List.length_set]; exact hL.out, hB.setCell (Nat.le_refl _) _, s1, s2⟩
     case measure => simp [intOf]; omega
    ·have HST := Lib.hid (hst (x + 4294967296 - 0 - cn) 1 (by omega)); clear hst hra hrb; go_wp2
     go_roundw
     case rel =>
      obtain ⟨s1, s2⟩ := HST.out
      rw [Xy _ (by omega) (by omega), show (((x : Int) - (cn : Int)) + 18446744073709551616) % 4294967296 = ((x + 4294967296 - 0 - cn : Nat) : Int) by omega]
      exact ⟨k + 1, 1, _, by omega, by go_num, by go_num, by omega, hR.set k (by omega), by show _ = _; rw [List.length_set]; exact hL.out, hB.setCell (Nat.le_refl _) _, s1, s2⟩
     case measure => simp [intOf]; omega
  ·have hkl : k = la.length := by omega
   subst hkl; have HV := Lib.hid (Sx hR.dig hL.out hlen HLE.out hv.out); clear hra hrb
   go_wp2_with (go_at_call 206; refine (Gi _ _ _ _ _ _ hR hL.out).mono ?_; rintro e w2 ⟨v, rfl, ho, rfl⟩)
   go_ret; rw [HV.out] at ho; exact ⟨v, rfl, ho, hB⟩
def Qhj (w : World) (m n : Nat) (e : Ending) (w' : World) : Prop :=
 ∃ z, e = .returned (.tuple #[z, .bool (decide (n ≤ m))]) ∧ Own w' w.heap.size z (nf (m - n)) ∧ Below w.heap.size w w'
theorem Qa7 (w : World) (u v : Value) (la lb : List Nat) (hu : Rd w u la) (hv : Rd w v lb) (hla : la.length ≤ 1000000) :
  Calls Tryz.prog 205 #[u, v] w (Qhj w (val la) (val lb)) := by
 have hle := Dr hu.dig
 go_enter Tryz.func205, Tryz.ntmps205; go_wp2_with fail
 refine (Z5 _ _ _ _ _ hu hv).mono ?_
 rintro e w1 ⟨rfl, hb1⟩
 by_cases hlt : val la < val lb
 ·rw [Fl hlt]; have HD := Lib.hid (decide_eq_false (show ¬ val lb ≤ val la by omega)); have HZ := Lib.hid (show val la - val lb = 0 by omega); clear hlt; go_wp2; go_ret2
  exact ⟨_, by rw [HD.out]; rfl, by rw [HZ.out]; exact Own.nil _ _, hb1⟩
 ·have hge : 0 ≤ Av (val la) (val lb) := by unfold Av; rw [if_neg hlt]; split <;> omega
  have HD := Lib.hid (decide_eq_true (show val lb ≤ val la by omega))
  generalize Av (val la) (val lb) = c at *
  go_wp2_with fail
  refine (D3 _ _ _ (hu.keep hb1)).mono ?_
  rintro e w2 ⟨u', rfl, hu', rfl⟩
  go_wp2_with fail
  refine (D3 _ _ _ (hv.keep hb1)).mono ?_
  rintro e w2 ⟨v', rfl, hv', rfl⟩
  go_wp2_with fail; obtain ⟨a, capa, rfl, _, _, hda, hra⟩ := hu'; obtain ⟨b, capb, rfl, _, _, hdb, hrb⟩ := hv'
  refine (Qmb w1 a b capa capb _ _ (D4 (by omega)) (by rw [Ah, Ah]; omega) (by omega) hda hdb hra hrb).mono ?_
  rintro e w3 ⟨z, rfl, hz, hb3⟩
  rw [Ah, Ah] at hz; go_wp2; go_ret2
  exact ⟨_, by rw [HD.out]; rfl, hz.mono hb1.size, hb1.trans (hb3.mono hb1.size)⟩
theorem Kk {x y : Nat} (hx : x < 4294967296) (hy : y < 4294967296) : (0 : Int) ≤ (x : Int) * (y : Int) ∧ (x : Int) * (y : Int) ≤ 18446744065119617025 := by
 have h : x * y ≤ 4294967295 * 4294967295 := Nat.mul_le_mul (by omega) (by omega)
 rw [← Int.natCast_mul]; omega
theorem Y7 {L : List Nat} {V i k c x y T m : Nat} (hi : i + m ≤ L.length) (hk : k < m) (hdL : Dig L) (hx : x < 4294967296) (hy : y < 4294967296) (hc : c < 4294967296)
  (hz : ∀ j, i + m ≤ j → L.getD j 0 = 0) (z : Nat) (hgz : L.getD (i + k) 0 = z) (h : val L + 4294967296 ^ (i + k) * c = V + 4294967296 ^ i * (x * T)) :
  Dig (L.set (i + k) ((c + x * y + z) % 4294967296)) ∧ (c + x * y + z) / 4294967296 < 4294967296 ∧ (∀ j, i + m ≤ j → (L.set (i + k) ((c + x * y + z) % 4294967296)).getD j 0 = 0) ∧
   val (L.set (i + k) ((c + x * y + z) % 4294967296)) + 4294967296 ^ (i + (k + 1)) * ((c + x * y + z) / 4294967296) = V + 4294967296 ^ i * (x * (T + 4294967296 ^ k * y)) := by
 subst hgz
 have hz' := An hdL (i + k)
 have hb := Yc hx hy hc hz'
 exact ⟨G6 hdL _ (by omega), by omega, fun j hj => by rw [Cq _ _ _ _ (by omega)]; exact hz j hj, Qap (by omega) h⟩
theorem X0 {L : List Nat} {A b i m c x : Nat} (hL : i + m < L.length) (hz : ∀ j, i + m ≤ j → L.getD j 0 = 0)
  (h : val L + 4294967296 ^ (i + m) * c = A * b + 4294967296 ^ i * (x * b)) :
  (∀ j, i + 1 + m ≤ j → (L.set (i + m) c).getD j 0 = 0) ∧ val (L.set (i + m) c) = (A + 4294967296 ^ i * x) * b := by
 refine ⟨fun j hj => by rw [Cq _ _ _ _ (by omega)]; exact hz j (by omega), ?_⟩
 rw [Gz hL (hz _ (Nat.le_refl _)), h, Qj6 rfl]
theorem Qk4 (w : World) (u v : Value) (la lb : List Nat) (hu : Rd w u la) (hv : Rd w v lb) (hla : la.length ≤ 1000000) (hlb : lb.length ≤ 1000000) :
  Calls Tryz.prog 160 #[u, v] w fun e w' => ∃ z, e = .returned z ∧ Own w' w.heap.size z (nf (val la * val lb)) ∧ Below w.heap.size w w' := by
 have hle1 := Dr hu.dig
 have hle2 := Dr hv.dig
 go_enter Tryz.func160, Tryz.ntmps160; go_wp2_with fail
 refine (D3 _ _ _ hu).mono ?_
 rintro e w1 ⟨u', rfl, hu', rfl⟩
 go_wp2_with fail
 refine (D3 _ _ _ hv).mono ?_
 rintro e w1 ⟨v', rfl, hv', rfl⟩
 have hva := Lib.hid (Ah (val la)); have hvb := Lib.hid (Ah (val lb))
 generalize nf (val la) = xs, nf (val lb) = ys at *
 obtain ⟨a, capa, rfl, _, _, hda, hra⟩ := hu'; obtain ⟨b, capb, rfl, _, _, hdb, hrb⟩ := hv'; have hx1 : xs.length ≤ 1000000 := (by omega); have hy1 : ys.length ≤ 1000000 := (by omega); clear hu hv hle1 hle2 hla hlb
 go_wp2_with (at_make; go_loud (refine Dg _ rfl (.tmp 19) (.tmp 19) 45 rfl Tryz.underlying45 _ _ (xs.length + ys.length) rfl rfl (by omega) (by omega) (by omega) ?_); intro w1 R0 B0)
 go_loopw [23] (fun i wr => ∃ (k : Nat) (L : List Nat), k ≤ xs.length ∧ i = .int .i64 k ∧ Row wr w.heap.size w.heap.size (xs.length + ys.length) L ∧ Hid (L.length = xs.length + ys.length) ∧ Below w.heap.size w wr ∧
   Hid (∀ j, k + ys.length ≤ j → L.getD j 0 = 0) ∧ Hid (val L = val (xs.take k) * val ys)) (fun i _ => xs.length - (intOf i).toNat)
 case atStart => exact ⟨0, _, Nat.zero_le _, rfl, R0, by show _ = _; simp, B0, fun j _ => C3 _ _, by show _ = _; simp [Dc, Ay]⟩
 case round =>
  obtain ⟨i, L0, hi, rfl, hR0, hL0, hB0, hz0, hv0⟩ := hrel; obtain ⟨wo, hwo⟩ : ∃ wo : World, wo = wr := ⟨_, rfl⟩; subst hwo
  by_cases hlt : i < xs.length
  ·obtain ⟨ba, offa, rfl, cA⟩ := hra.at hB0 hlt
   have hx := An hda i
   have HX := Lib.hid (Ds xs i hlt)
   generalize xs.getD i 0 = x at *
   have hrow0 := hR0.lt
   go_wp2
   go_loopw [8, 30] (fun c i' wr => ∃ (k cn : Nat) (L : List Nat), k ≤ ys.length ∧ i' = .int .i64 k ∧ c = .int .u64 cn ∧ cn < 4294967296 ∧ Row wr w.heap.size w.heap.size (xs.length + ys.length) L ∧ Hid (L.length = xs.length + ys.length) ∧ Below w.heap.size w wr ∧
     Hid (∀ j, i + ys.length ≤ j → L.getD j 0 = 0) ∧ Hid (val L + 4294967296 ^ (i + k) * cn = val (xs.take i) * val ys + 4294967296 ^ i * (x * val (ys.take k)))) (fun _ i' _ => ys.length - (intOf i').toNat)
   case atStart => exact ⟨0, 0, L0, Nat.zero_le _, rfl, rfl, by omega, hR0, hL0, hB0, hz0, by show _ = _; rw [hv0.out]; simp [Ay]⟩
   case round =>
    obtain ⟨k, cn, L, hk, rfl, rfl, hcn, hR, hL, hB, hz, hv⟩ := hrel
    have hRl := hR.lt
    have hRc := hR.cap
    by_cases hltb : k < ys.length
    ·obtain ⟨bb, offb, rfl, cB⟩ := hrb.at hB hltb
     have hy := An hdb k
     have hst := fun y => @Y7 L (val (xs.take i) * val ys) i k cn x y (val (ys.take k)) ys.length (by rw [hL.out]; omega) hltb hR.dig hx
     have hvt := Ds ys k hltb
     generalize ys.getD k 0 = y at *
     have cR := hR.cell (j := i + k) (by rw [hL.out]; omega)
     have fR := hR.free (i + k)
     have hdz := An hR.dig (i + k)
     have hst := hst y hy hcn hz.out (L.getD (i + k) 0) rfl hv.out
     generalize L.getD (i + k) 0 = z at *
     rw [← hvt] at hst; have HST := Lib.hid hst
     have hm := Kk hx hy
     clear hst hvt hra hrb; go_wp2
     go_roundw
     case rel =>
      obtain ⟨s1, s2, s3, s4⟩ := HST.out
      have e0 : (cn : Int) + ((x : Int) * (y : Int) + (z : Int)) = ((cn + x * y + z : Nat) : Int) := by
       rw [Int.natCast_add, Int.natCast_add, Int.natCast_mul]; omega
      rw [e0]; have e1 : ((cn + x * y + z : Nat) : Int) % 4294967296 = (((cn + x * y + z) % 4294967296 : Nat) : Int) := (by omega); rw [e1]
      exact ⟨k + 1, (cn + x * y + z) / 4294967296, _, by omega, by go_num, by go_num, s2, hR.set (i + k) (by omega), by show _ = _; rw [List.length_set]; exact hL.out, hB.setCell (Nat.le_refl _) _, s3, s4⟩
     case measure => simp [intOf]; omega
    ·have hkl : k = ys.length := by omega
     subst hkl
     have cR := hR.cell (j := i + ys.length) (by rw [hL.out]; omega)
     have fR := hR.free (i + ys.length)
     generalize L.getD (i + ys.length) 0 = z at *
     have hv2 := hv.out
     rw [List.take_length] at hv2
     have hst := X0 (by rw [hL.out]; omega) hz.out hv2
     rw [← HX.out] at hst; have HST := Lib.hid hst; clear hst hv2 hra hrb; go_wp2
     go_roundw
     case rel =>
      obtain ⟨s1, s2⟩ := HST.out
      exact ⟨i + 1, _, by omega, by go_num, hR.set (i + ys.length) hcn, by show _ = _; rw [List.length_set]; exact hL.out, hB.setCell (Nat.le_refl _) _, s1, s2⟩
     case measure => simp [intOf]; omega
  ·have hil : i = xs.length := by omega
   subst hil
   have hv2 := hv0.out
   rw [List.take_length] at hv2; have HV := Lib.hid hv2; clear hv2 hra hrb
   go_wp2_with (go_at_call 206; refine (Gi _ _ _ _ _ _ hR0 hL0.out).mono ?_; rintro e w2 ⟨v, rfl, ho, rfl⟩)
   go_ret; rw [HV.out, hva.out, hvb.out] at ho; exact ⟨v, rfl, ho, hB0⟩
end Go.Proofs.YtpnpnlmlamfpmaaGreatDoor
