import Derived.Test.YtpnpnlmlamfpmaaGreatDoorS09
import Derived.Deep.RegionHeld3
import Derived.Laws.IdiomCopy
namespace Go.Proofs.YtpnpnlmlamfpmaaGreatDoor
open Go.RowKit
set_option maxHeartbeats 40000000
set_option maxRecDepth 100000
set_option synthInstance.maxHeartbeats 1000000
set_option synthInstance.maxSize 100000
theorem Tj {m : Nat} (h : (nf m).length ≤ 2) : m < 18446744073709551616 := by
 have := Eh h
 omega
theorem J1 {p q g : Nat} (hq : q ≠ 0) (h : Nat.gcd p q = g) : Nat.gcd q (p % q) = g ∧ p % q < q := by
 refine ⟨?_, Nat.mod_lt _ (by omega)⟩
 rw [← h, Nat.gcd_comm p q, Nat.gcd_rec q p, Nat.gcd_comm]
theorem Qjd (w : World) (u v : Value) (la lb : List Nat) (hu : Rd w u la) (hv : Rd w v lb) (hla : la.length ≤ 1000000) (hlb : lb.length ≤ 1000000) :
  Calls Tryz.prog 169 #[u, v] w fun e w' => ∃ z, e = .returned z ∧ Own w' w.heap.size z (nf (Nat.gcd (val la) (val lb))) ∧ Below w.heap.size w w' := by
 have hna := Dr hu.dig
 have hnb := Dr hv.dig
 have CA := Lib.hid (P7 _ _ _ hu hla); have CB := Lib.hid (fun (w1 : World) (b : Below w.heap.size w w1) => P7 w1 _ _ (hv.keep b) hlb); have hLA := Lib.hid (Nat.le_trans hna hla); have hLB := Lib.hid (Nat.le_trans hnb hlb); clear hu hv hna hnb hla hlb
 generalize val la = m, val lb = n at *
 go_enter Tryz.func169, Tryz.ntmps169; go_wp2_with fail
 refine CA.out.mono ?_
 rintro e w1 ⟨x, rfl, hx, b1⟩
 go_wp2_with fail
 refine (CB.out _ b1).mono ?_
 rintro e w2 ⟨y, rfl, hy, b2⟩
 have hX := Lib.hid (hx.keep b2); have hY := Lib.hid (hy.mono b1.size); have hB := Lib.hid (Ar b1 b2); clear hx hy b1 b2 CA CB; go_wp2_with fail
 go_loopw [0, 1] (fun x y wr => ∃ p q : Nat, Hid (Own wr w.heap.size x (nf p)) ∧ Hid (Own wr w.heap.size y (nf q)) ∧ Hid (Below w.heap.size w wr) ∧ Hid (Nat.gcd p q = Nat.gcd m n) ∧ Hid ((nf p).length ≤ 1000000) ∧ Hid ((nf q).length ≤ 1000000)) (fun _ y wr => Ir wr y)
 case atStart => exact ⟨m, n, hX, hY, hB, rfl, hLA, hLB⟩
 case round =>
  obtain ⟨p, q, hP, hQ, hW, hG, hlp, hlq⟩ := hrel; clear hX hY hB hLA hLB; obtain ⟨ax, cx, rfl, hcx, hcx2, _, _⟩ := hP.out.rd; obtain ⟨ay, cy, rfl, hcy, hcy2, _, _⟩ := hQ.out.rd
  by_cases hbig : 2 < (nf p).length ∨ 2 < (nf q).length
  ·by_cases hq : q = 0
   ·have h0 : (nf q).length = 0 := by rw [hq]; rfl
    have h1 : 2 < (nf p).length := (by omega)
    have HE : Hid (p = Nat.gcd m n) := by show _ = _; rw [← hG.out, hq, Nat.gcd_zero_right]
    have hb : (((nf q).length : Int) == 0) = true := by rw [h0]; rfl
    clear hbig hq h0; go_wp2; go_ret
    exact ⟨_, rfl, by rw [← HE.out]; exact hP.out, hW.out⟩
   ·have hp := Bw hq
    have hb : (((nf q).length : Int) == 0) = false := by rw [beq_eq_false_iff_ne]; omega
    obtain ⟨g1, g2⟩ := J1 hq hG.out; have HG := Lib.hid g1; have HL := Lib.hid g2; have HI := Lib.hid (show (if q = 0 then 0 else p % q) = p % q from if_neg hq); clear g1 g2 hq hp
    by_cases h1 : 2 < (nf p).length
    all_goals
     go_wp2_with fail
     refine (Uc _ _ _ _ _ hP.out.rd hQ.out.rd hlp.out (.inr Zd)).mono ?_
     rintro e w3 ⟨qq, r, rfl, _, hr, b3⟩
     simp only [Ah] at hr; rw [HI.out] at hr; have HR := Lib.hid (hr.mono hW.out.size)
     have hV : Ir wr (.slice ay (nf q).length cy) = q := by rw [I1 hQ.out.rd, Ah]
     have hV2 : Ir w3 r = p % q := by rw [I1 hr.rd, Ah]
     have HV := Lib.hid hV; have HV2 := Lib.hid hV2; have HB3 := Lib.hid b3; clear hr hV hV2 b3; go_wp2_with fail
     go_roundw
     case rel => exact ⟨q, p % q, hQ.out.keep HB3.out, HR, Ar hW.out HB3.out, HG, hlq, E5 (Nat.mod_le _ _) hlp.out⟩
     case measure => rw [HV.out, HV2.out]; exact HL.out
  ·have h1 : (nf p).length ≤ 2 := by omega
   have h2 : (nf q).length ≤ 2 := (by omega)
   have hp := Tj h1
   have hq := Tj h2
   clear hbig; go_wp2_with fail
   refine (R3 _ _ _ hP.out.rd).mono ?_
   rintro e w3 ⟨rfl, rfl⟩
   rw [Ah, Cv hp]; go_wp2_with fail
   refine (R3 _ _ _ hQ.out.rd).mono ?_
   rintro e w3 ⟨rfl, rfl⟩
   rw [Ah, Cv hq]; go_wp2_with fail
   go_loopw [8, 10] (fun x y wx => ∃ p q : Nat, x = .int .u64 p ∧ y = .int .u64 q ∧ p < 18446744073709551616 ∧ q < 18446744073709551616 ∧ Hid (Below w.heap.size w wx) ∧ Hid (Nat.gcd p q = Nat.gcd m n)) (fun _ y _ => (intOf y).toNat)
   case atStart => exact ⟨p, q, rfl, rfl, hp, hq, hW, hG⟩
   case round =>
    obtain ⟨p2, q2, rfl, rfl, hp2, hq2, hW2, hG2⟩ := hrel
    by_cases h0 : q2 = 0
    ·have HE : Hid (p2 = Nat.gcd m n) := by show _ = _; rw [← hG2.out, h0, Nat.gcd_zero_right]
     have hb : (((q2 : Nat) : Int) != 0) = false := by rw [h0]; rfl
     clear h0; go_wp2_with fail
     refine (Q3 _ p2 hp2).mono ?_
     rintro e w4 ⟨z, rfl, hz, b4⟩
     go_wp2; go_ret
     exact ⟨_, rfl, by rw [← HE.out]; exact hz.mono hW2.out.size, Ar hW2.out b4⟩
    ·obtain ⟨g1, g2⟩ := J1 h0 hG2.out; have HG := Lib.hid g1; have HL := Lib.hid g2
     have hb : (((q2 : Nat) : Int) != 0) = true := by rw [bne_iff_ne]; omega
     have hb0 : (((q2 : Nat) : Int) == 0) = false := by rw [beq_eq_false_iff_ne]; omega
     have e2 : (p2 : Int) % (q2 : Int) = ((p2 % q2 : Nat) : Int) := by rw [Int.natCast_emod]
     have E2 := Lib.hid e2
     have HQ1 : Hid ((1 : Int) ≤ (q2 : Int)) := by show _ ≤ _; omega
     have r1 : (0 : Int) ≤ (p2 : Int) % (q2 : Int) := by rw [e2]; exact Int.natCast_nonneg _
     have r2 : (p2 : Int) % (q2 : Int) < 18446744073709551616 := by rw [e2]; omega
     clear g1 g2 e2 h0; go_wp2_with fail; clear hb hb0
     have hq1 : (1 : Int) ≤ (q2 : Int) := HQ1.out
     have hq0 : ((q2 : Int) == 0) = false := by rw [beq_eq_false_iff_ne]; omega
     have hqz : ¬ (q2 = 0) := (by omega)
     go_quiet (fail)
     go_wp2_with fail
     go_roundw
     case rel => rw [E2.out]; exact ⟨q2, p2 % q2, rfl, rfl, hq2, Nat.lt_trans HL.out hq2, Be hW2.out _, HG⟩
     case measure => rw [E2.out]; have := HL.out; simp [intOf]; omega
section
def Nn (w : World) (v : Value) (n k : Nat) : Prop := Rd w v (nf n) ∧ (nf n).length ≤ k
def Rr (w : World) (v : Value) (n k : Nat) : Prop := ∃ l, Rd w v l ∧ val l = n ∧ l.length ≤ k
variable {k n : Nat} {v : Value} {w w' : World}
theorem Nn.rr (h : Nn w v n k) : Rr w v n k := ⟨_, h.1, Ah _, h.2⟩
theorem Nn.keep (h : Nn w v n k) (hb : Below w.heap.size w w') : Nn w' v n k := ⟨h.1.keep hb, h.2⟩
theorem Rr.keep (h : Rr w v n k) (hb : Below w.heap.size w w') : Rr w' v n k := by
 obtain ⟨l, h1, h2⟩ := h; exact ⟨l, h1.keep hb, h2⟩
theorem Nn.mono {k' : Nat} (h : Nn w v n k) (hk : k ≤ k') : Nn w v n k' := ⟨h.1, Nat.le_trans h.2 hk⟩
theorem Nn.nil (w : World) (k : Nat) : Nn w (.slice none 0 0) 0 k := ⟨Rd.nil w, by simp [Ef]⟩
theorem Nn.of_own {base : Nat} (h : Own w base v (nf n)) (hk : (nf n).length ≤ k) : Nn w v n k := ⟨h.rd, hk⟩
variable {l : List Nat}
theorem Rr.of_rd (h : Rd w v l) (hk : l.length ≤ k) : Rr w v (val l) k := ⟨l, h, rfl, hk⟩
theorem Nn.lit (h : Rd w v l) (e : nf n = l) (hk : l.length ≤ k) : Nn w v n k := by
 subst e; exact ⟨h, hk⟩
theorem Nn.shape (h : Nn w v n k) : ∃ a cap, v = .slice a (nf n).length cap ∧ (nf n).length ≤ cap ∧ cap ≤ 9223372036854775807 ∧ (nf n).length ≤ k := by
 obtain ⟨⟨a, cap, e, h1, h2, _⟩, hk⟩ := h; exact ⟨a, cap, e, h1, h2, hk⟩
theorem Qbn : 0 < (nf n).length ↔ n ≠ 0 := by
 constructor
 ·intro h e; subst e; simp [Ef] at h
 ·exact Bw
def C8 (w : World) (n k : Nat) (e : Ending) (w' : World) : Prop := ∃ a l c, e = .returned (.slice a l c) ∧ Nn w' (.slice a l c) n k ∧ Below w.heap.size w w'
theorem C8.mk (h : Nn w' v n k) (hb : Below w.heap.size w w') : C8 w n k (.returned v) w' := by
 obtain ⟨a, c, rfl, _⟩ := h.shape; exact ⟨a, _, c, rfl, h, hb⟩
theorem Nn.len {a : Option Addr} {l c : Nat} (h : Nn w (.slice a l c) n k) : l = (nf n).length := by
 obtain ⟨a', c', e, _⟩ := h.shape
 injection e
section
variable {w : World} {u v : Value} {m n km kn : Nat}
theorem Qe7 (hu : Rr w u m km) (hk : km ≤ 900000) : Calls Tryz.prog 164 #[u] w (C8 w m km) := by
 obtain ⟨l, h, rfl, hl⟩ := hu
 refine (P7 _ _ _ h (by omega)).mono ?_
 rintro e w' ⟨z, rfl, hz, hb⟩
 exact .mk (.of_own hz (Nat.le_trans (Dr h.dig) hl)) hb
theorem Vi {m n a b : Nat} (h1 : (nf m).length ≤ a) (h2 : (nf n).length ≤ b) : (nf (m + n)).length ≤ max a b + 1 := by
 have h3 := Eh (Nat.le_trans h1 (Nat.le_max_left a b))
 have h4 := Eh (Nat.le_trans h2 (Nat.le_max_right a b))
 refine Bi ?_
 rw [Nat.pow_succ]; omega
theorem Rr.nflen {w : World} {v : Value} {n k : Nat} (h : Rr w v n k) : (nf n).length ≤ k := by
 obtain ⟨l, h, rfl, hl⟩ := h; exact Nat.le_trans (Dr h.dig) hl
theorem Qfx (hu : Rr w u m km) (hv : Rr w v n kn) (hk : km ≤ 900000) (hk2 : kn ≤ 900000) : Calls Tryz.prog 204 #[u, v] w (C8 w (m + n) (max km kn + 1)) := by
 have h1 := hu.nflen
 have h3 := hv.nflen
 obtain ⟨la, h, rfl, hl⟩ := hu; obtain ⟨lb, h2, rfl, hl2⟩ := hv
 refine (Qay _ _ _ _ _ h h2 (by omega) (by omega)).mono ?_
 rintro e w' ⟨z, rfl, hz, hb⟩
 exact .mk (.of_own hz (Vi h1 h3)) hb
theorem Qdo (hu : Rr w u m km) (hv : Rr w v n kn) (hk : km ≤ 900000) (hk2 : kn ≤ 900000) : Calls Tryz.prog 160 #[u, v] w (C8 w (m * n) (km + kn)) := by
 have h1 := hu.nflen
 have h3 := hv.nflen
 obtain ⟨la, h, rfl, hl⟩ := hu; obtain ⟨lb, h2, rfl, hl2⟩ := hv
 refine (Qk4 _ _ _ _ _ h h2 (by omega) (by omega)).mono ?_
 rintro e w' ⟨z, rfl, hz, hb⟩
 exact .mk (.of_own hz (F3 h1 h3 (Nat.le_refl _))) hb
theorem Qfw (hu : Rr w u m km) (hv : Rr w v n kn) (hk : km ≤ 900000) : Calls Tryz.prog 205 #[u, v] w fun e w' => ∃ a l c, e = .returned (.tuple #[.slice a l c, .bool (decide (n ≤ m))]) ∧ Nn w' (.slice a l c) (m - n) km ∧ Below w.heap.size w w' := by
 have h1 := hu.nflen
 obtain ⟨la, h, rfl, hl⟩ := hu; obtain ⟨lb, h2, rfl, hl2⟩ := hv
 refine (Qa7 _ _ _ _ _ h h2 (by omega)).mono ?_
 rintro e w' ⟨z, rfl, hz, hb⟩
 have hn := Nn.of_own hz (E5 (Nat.sub_le _ _) h1)
 obtain ⟨a, c, rfl, _⟩ := hn.shape; exact ⟨_, _, _, rfl, hn, hb⟩
theorem Qmp (hu : Rr w u m km) (hv : Rr w v n kn) (hk : km ≤ 900000) : Calls Tryz.prog 190 #[u, v] w fun e w' => ∃ a l c a2 l2 c2, e = .returned (.tuple #[.slice a l c, .slice a2 l2 c2, .bool (decide (n ≠ 0))]) ∧ Nn w' (.slice a l c) (m / n) km ∧ Nn w' (.slice a2 l2 c2) (if n = 0 then 0 else m % n) km ∧ Below w.heap.size w w' := by
 have h1 := hu.nflen
 obtain ⟨la, h, rfl, hl⟩ := hu; obtain ⟨lb, h2, rfl, hl2⟩ := hv
 refine (Uc _ _ _ _ _ h h2 (by omega) (.inr Zd)).mono ?_
 rintro e w' ⟨q, r, rfl, hq, hr, hb⟩
 have hn := Nn.of_own hq (E5 (Nat.div_le_self _ _) h1)
 have hn2 := Nn.of_own hr (k := km) (by
  split
  ·simp [Ef]
  ·exact E5 (Nat.mod_le _ _) h1)
 obtain ⟨a, c, rfl, _⟩ := hn.shape; obtain ⟨a2, c2, rfl, _⟩ := hn2.shape; exact ⟨_, _, _, _, _, _, rfl, hn, hn2, hb⟩
theorem Qe8 (hu : Rr w u m km) (hv : Rr w v n kn) (hk : km ≤ 900000) (hk2 : kn ≤ 900000) : Calls Tryz.prog 169 #[u, v] w (C8 w (Nat.gcd m n) (max km kn)) := by
 have h1 := hu.nflen
 have h3 := hv.nflen
 obtain ⟨la, h, rfl, hl⟩ := hu; obtain ⟨lb, h2, rfl, hl2⟩ := hv
 refine (Qjd _ _ _ _ _ h h2 (by omega) (by omega)).mono ?_
 rintro e w' ⟨z, rfl, hz, hb⟩
 refine .mk (.of_own hz ?_) hb
 by_cases h0 : val la = 0
 ·rw [h0, Nat.gcd_zero_left]; exact Nat.le_trans h3 (Nat.le_max_right _ _)
 ·exact Nat.le_trans (E5 (Nat.gcd_le_left _ (by omega)) h1) (Nat.le_max_left _ _)
theorem Qbe (hu : Rr w u m km) (hk : km ≤ 900000) : Calls Tryz.prog 168 #[u] w fun e w' => e = .returned (.int .i64 ((nbits m : Nat) : Int)) ∧ w = w' := by
 obtain ⟨la, h, rfl, hl⟩ := hu; exact Qkj _ _ _ h (by omega)
theorem Ql3 (hu : Rr w u m km) : Calls Tryz.prog 192 #[u] w fun e w' => e = .returned (Dx m) ∧ w = w' := by
 obtain ⟨la, h, rfl, hl⟩ := hu; exact R3 _ _ _ h
theorem Qbz {x : Nat} (hx : x < 18446744073709551616) : Calls Tryz.prog 165 #[.int .u64 (x : Int)] w (C8 w x 2) := by
 refine (Q3 _ x hx).mono ?_
 rintro e w' ⟨z, rfl, hz, hb⟩
 exact .mk (.of_own hz (Bi (by omega))) hb
theorem Qed (hu : Rr w u m km) (hk : km ≤ 900000) : Calls Tryz.prog 71 #[u] w (C8 w m km) := by
 have h1 := hu.nflen
 obtain ⟨la, h, rfl, hl⟩ := hu
 refine (Qff _ _ _ h (by omega)).mono ?_
 rintro e w' ⟨z, rfl, hz, hb⟩
 exact .mk (.of_own hz h1) hb
theorem Qih (hu : Nn w u m km) (hk : km ≤ 900000) : Calls Tryz.prog 33 #[u] w (C8 w m km) := by
 obtain ⟨h, hl⟩ := hu
 refine (Qmi _ _ _ h (by omega)).mono ?_
 rintro e w' ⟨z, rfl, hz, hb⟩
 exact .mk (.of_own hz hl) hb
theorem Ww (hu : Nn w u m km) (hv : Nn w v n kn) : Calls Tryz.prog 105 #[u, v] w fun e w' => e = .returned (.int .i64 (Av m n)) ∧ Below w.heap.size w w' := Nh _ _ _ _ _ hu.1 hv.1
end
end
section
variable {W w : World} {a p : Addr}
theorem Qis (x : Value) (h : Below w.heap.size w W) (hp : w.heap.size ≤ p.block) : Below w.heap.size w (W.setCell p x) := h.setCell hp x
theorem D0 (h : Below w.heap.size w W) : Below w.heap.size w W.drew := h.drew
variable {v v1 x : Value}
theorem keepc {w1 : World} (hb : Below W.heap.size W w1) (h : W.cell? a = some v) : w1.cell? a = some v := (hb.cell (El h)).trans h
theorem setf (h : W.frozen? a = false) : (W.setCell p x).frozen? a = false := by
 simpa using h
theorem setn (h : W.cell? a = some v) (hne : p ≠ a) : (W.setCell p x).cell? a = some v := by
 rw [World.cell?_setCell_other _ _ _ _ hne]; exact h
def Ks (w : World) (a : Addr) : Int := match w.cell? a with | some (.int _ x) => x | _ => 0
variable {n : Int}
theorem Qg (h : w.cell? a = some (.int .u32 n)) : w.cell? a = some (.int .u32 (Ks w a)) := by unfold Ks; rw [h]
theorem S9 {u : Value} (h : W.cell? p = some u) : (W.setCell p (.int .u32 n)).cell? p = some (.int .u32 (Ks (W.setCell p (.int .u32 n)) p)) := Qg (World.cell?_setCell_same _ _ _ h)
variable {P : Program}
theorem M1 (W : World) (b : Nat) (ty : TypeId) (vs : List Value) (d : TypeDesc) (hu : P.underlying ty = some d) (hd : (match d with | .struct _ | .array _ _ => true | _ => false) = true)
  (hi : (P.info? ty).map (·.size) = some vs.length) (hc : ∀ j (hj : j < vs.length), W.cell? ⟨b, j, none⟩ = some vs[j]) : (loadVar ty ⟨b, 0, none⟩).run P W = .ok (.agg vs.toArray) W := by
 have hl : (loadCells ⟨b, 0, none⟩ vs.length).run P W = .ok vs.toArray W :=
  run_loadCells_list (P := P) W ⟨b, 0, none⟩ vs (fun j v hv => by
   have hadd : (⟨b, 0, none⟩ : Addr).add j = ⟨b, j, none⟩ := by unfold Addr.add; split <;> simp_all
   rw [hadd]
   have hj : j < vs.length := by
    rcases Nat.lt_or_ge j vs.length with h | h
    ·exact h
    ·rw [List.getElem?_eq_none h] at hv; cases hv
   rw [hc j hj, ← hv, List.getElem?_eq_getElem hj])
 cases hq : P.info? ty with
 | none => simp [hq] at hi
 | some i =>
  have hs : i.size = vs.length := by simpa [hq] using hi
  have hagg : (isAgg ty).run P W = .ok true W := by
   unfold isAgg; rw [Sem.run_bind, run_underlying hu W]
   cases d <;> simp_all
  simp [loadVar, hagg, sizeOf, typeInfo, hq, hs, hl]
variable {R : Ending → World → Prop} {b1 : Nat} {fn : Func} {ty : TypeId}
theorem Tl {a : Act} {p u : Tmp} (hr : fn.results = #[.cell p ty, .tmp u])
  (hp : a.tmps.getD p undef = .pointer (some ⟨b1, 0, none⟩)) (h1 : (loadVar ty ⟨b1, 0, none⟩).run P W = .ok v1 W)
  (hdf : a.defers = []) (hR : R (.returned (.tuple #[v1, a.tmps.getD u undef])) W) : bodyPost P fn R .ret a W := by
 refine ⟨hdf, _, ?_, hR⟩
 have hp' : a.tmps[p]?.getD undef = .pointer (some ⟨b1, 0, none⟩) := by simpa using hp
 simp [results, hr, hp', asAddr, h1]
theorem Qjo {a : Act} {p : Tmp} (hr : fn.results = #[.cell p ty])
  (hp : a.tmps.getD p undef = .pointer (some ⟨b1, 0, none⟩)) (h1 : (loadVar ty ⟨b1, 0, none⟩).run P W = .ok v1 W)
  (hdf : a.defers = []) (hR : R (.returned v1) W) : bodyPost P fn R .ret a W := by
 refine ⟨hdf, _, ?_, hR⟩
 have hp' : a.tmps[p]?.getD undef = .pointer (some ⟨b1, 0, none⟩) := by simpa using hp
 simp [results, hr, hp', asAddr, h1]
def Am : Value → Bool
 | .int .u32 _ => true
 | _ => false
theorem Nn.lit1 : Nn (w.alloc (.cells #[.int .u32 1] 204)) (.slice (some ⟨w.heap.size, 0, none⟩) 1 1) 1 1 :=
 .lit (Qg8 rfl [1] (Ox (by omega)) (by simp) #[.int .u32 1] rfl 1 rfl) (Qib (by omega) (by omega)) (by simp)
end
section
variable {c x y : Nat}
theorem Mt (h : x < 4294967296) : x.testBit 31 = decide (2147483648 ≤ x) := by
 rw [Nat.testBit_eq_decide_div_mod_eq, decide_eq_decide]; omega
theorem Qbf {v : Nat} (h : v < 4294967296) : v / 2147483648 = if v.testBit 31 then 1 else 0 := by
 rw [Mt h]
 by_cases hv : 2147483648 ≤ v
 ·simp [hv]; omega
 ·simp [hv]; omega
def H4 (x y c : Nat) : Nat := if x < y + c then 1 else 0
theorem Qfc {d : Nat} (hx : x < 4294967296) (hy : y < 4294967296) (hc : c ≤ 1) (hd : d = (x + 8589934592 - y - c) % 4294967296) :
  (((4294967295 ^^^ x) &&& y) ||| ((4294967295 ^^^ (x ^^^ y)) &&& d)) / 2147483648 = H4 x y c := by
 have hd2 : d < 4294967296 := (by omega)
 have h1 : ((4294967295 ^^^ x) &&& y) < 2 ^ 32 := Nat.and_lt_two_pow _ (by omega)
 have h2 : ((4294967295 ^^^ (x ^^^ y)) &&& d) < 2 ^ 32 := Nat.and_lt_two_pow _ (by omega)
 have h3 := Nat.or_lt_two_pow h1 h2
 rw [Qbf (by simpa using h3)]
 rw [Nat.testBit_or, Nat.testBit_and, Nat.testBit_and, Nat.testBit_xor, Nat.testBit_xor, Nat.testBit_xor, Mt hx, Mt hy, Mt hd2, show (4294967295 : Nat).testBit 31 = true by decide]
 unfold H4
 by_cases a : 2147483648 ≤ x <;> by_cases b : 2147483648 ≤ y <;> by_cases e : 2147483648 ≤ d <;> simp [a, b, e] <;> omega
theorem Qld (hx : x < 4294967296) (hy : y < 4294967296) (hc : c ≤ 1) :
  bits .or .u32 (bits .and .u32 (bits .xor .u32 IntKind.u32.max (x : Int)) (y : Int)) (bits .and .u32 (bits .xor .u32 IntKind.u32.max (bits .xor .u32 (x : Int) (y : Int))) (((x : Int) - y - c) % 4294967296)) / 2147483648 = ((H4 x y c : Nat) : Int) := by
 have hd : ((x : Int) - y - c) % 4294967296 = (((x + 8589934592 - y - c) % 4294967296 : Nat) : Int) := (by omega)
 have hm : IntKind.u32.max = ((4294967295 : Nat) : Int) := by decide
 have hxy : x ^^^ y < 2 ^ 32 := Nat.xor_lt_two_pow (by omega) (by omega)
 have e1 : 4294967295 ^^^ x < 2 ^ 32 := Nat.xor_lt_two_pow (by omega) (by omega)
 have e2 : 4294967295 ^^^ (x ^^^ y) < 2 ^ 32 := Nat.xor_lt_two_pow (by omega) hxy
 rw [hd, hm, u32_xor_nat _ _ (by omega) hx, u32_xor_nat _ _ hx hy, u32_xor_nat _ _ (by omega) (by simpa using hxy), u32_and_nat _ _ (by simpa using e1) hy, u32_and_nat _ _ (by simpa using e2) (by omega),
  u32_or_nat _ _ (by simpa using Nat.and_lt_two_pow _ (show y < 2 ^ 32 by omega)) (by simpa using Nat.and_lt_two_pow _ (show (x + 8589934592 - y - c) % 4294967296 < 2 ^ 32 by omega))]
 rw [← Qfc hx hy hc rfl]; omega
variable {w : World}
theorem Rx {x y c : Int} (hx0 : 0 ≤ x) (hx : x < 4294967296) (hy0 : 0 ≤ y) (hy : y < 4294967296) (hc0 : 0 ≤ c) (hc : c ≤ 1) :
  Calls Tryz.prog 193 #[.int .u32 x, .int .u32 y, .int .u32 c] w fun e w' => e = .returned (.tuple #[.int .u32 ((x + y + c) % 4294967296), .int .u32 ((x + y + c) / 4294967296)]) ∧ w = w' := by
 go_enter Tryz.func193, Tryz.ntmps193; go_wp2; go_ret2; exact ⟨rfl, rfl⟩
theorem Mb {k : IntKind} {a a' b b' : Int} (h1 : a = a') (h2 : b = b') : Ending.returned (.tuple #[.int k a, .int k b]) = Ending.returned (.tuple #[.int k a', .int k b']) := by rw [h1, h2]
def Qeh (x y c : Nat) : Value := .tuple #[.int .u32 (((x + 8589934592 - y - c) % 4294967296 : Nat) : Int), .int .u32 ((H4 x y c : Nat) : Int)]
theorem Yx (hx : x < 4294967296) (hy : y < 4294967296) (hc : c ≤ 1) :
  Calls Tryz.prog 194 #[.int .u32 (x : Int), .int .u32 (y : Int), .int .u32 (c : Int)] w fun e w' => e = .returned (Qeh x y c) ∧ w = w' := by
 have HL := Lib.hid (Qld hx hy hc); have HD := Lib.hid (show (((x : Int) - y) % 4294967296 - c) % 4294967296 = (((x + 8589934592 - y - c) % 4294967296 : Nat) : Int) by omega)
 have hs : IntKind.u32.signed = false := rfl
 go_enter Tryz.func194, Tryz.ntmps194; go_wp2; go_ret2
 refine ⟨?_, rfl⟩
 exact Mb HD.out HL.out
theorem U6 (l : List Nat) (k : Nat) : val (l.take (k + 1)) = val (l.take k) + 4294967296 ^ k * l.getD k 0 := by
 rcases Nat.lt_or_ge k l.length with h | h
 ·exact Ds l k h
 ·rw [List.take_of_length_le (by omega), List.take_of_length_le h, List.getD_eq_getElem?_getD, List.getElem?_eq_none h]; simp
theorem Ka {l : List Nat} {k : Nat} (h : ¬ k < l.length) : l.getD k 0 = 0 := by
 rw [List.getD_eq_getElem?_getD, List.getElem?_eq_none (by omega)]; rfl
theorem Uu {la lb L : List Nat} {c k x y N : Nat} (hL : L.length = N + 1) (hz : ∀ j, k ≤ j → L.getD j 0 = 0) (hdL : Dig L) (hc : c ≤ 1) (hk : k < N) (hda : Dig la) (hdb : Dig lb)
  (hx : la.getD k 0 = x) (hy : lb.getD k 0 = y) (h : val L + 4294967296 ^ k * c = val (la.take k) + val (lb.take k)) :
  Dig (L.set k ((x + y + c) % 4294967296)) ∧ (x + y + c) / 4294967296 ≤ 1 ∧ (∀ j, k + 1 ≤ j → (L.set k ((x + y + c) % 4294967296)).getD j 0 = 0) ∧
   val (L.set k ((x + y + c) % 4294967296)) + 4294967296 ^ (k + 1) * ((x + y + c) / 4294967296) = val (la.take (k + 1)) + val (lb.take (k + 1)) := by
 have h1 := An hda k
 have h1' := An hdb k
 rw [hx] at h1; rw [hy] at h1'
 have h2 := Nc (L := L) (j := k) (c := c) (s := x + y) (t := x + y + c) (by omega) (by rw [hz k (Nat.le_refl _)]; omega)
 refine ⟨G6 hdL k (by omega), by omega, fun j hj => ?_, ?_⟩
 ·rw [Cq _ _ _ _ (by omega)]; exact hz j (by omega)
 ·rw [h2, U6 la, U6 lb, hx, hy, Nat.mul_add, h]; omega
theorem Qhc {la lb L : List Nat} {N : Nat} (hL : L.length = N + 1) (hz : ∀ j, N ≤ j → L.getD j 0 = 0) (hla : la.length ≤ N) (hlb : lb.length ≤ N)
  (h : val L + 4294967296 ^ N * c = val (la.take N) + val (lb.take N)) : val (L.set N c) = val la + val lb := by
 rw [Gz (by omega) (hz _ (Nat.le_refl _)), h, List.take_of_length_le hla, List.take_of_length_le hlb]
theorem Qir (w : World) (u v : Value) (la lb : List Nat) (hu : Rd w u la) (hv : Rd w v lb) (hla : la.length ≤ 1000000) (hlb : lb.length ≤ 1000000) :
  Calls Tryz.prog 144 #[u, v] w fun e w' => ∃ z, e = .returned z ∧ Own w' w.heap.size z (nf (val la + val lb)) ∧ Below w.heap.size w w' := by
 obtain ⟨a, capa, rfl, _, _, hda, hra⟩ := hu; obtain ⟨b, capb, rfl, _, _, hdb, hrb⟩ := hv; obtain ⟨N, hN⟩ : ∃ N, N = max la.length lb.length := ⟨_, rfl⟩; have hNa : la.length ≤ N := (by omega); have hNb : lb.length ≤ N := (by omega); have hNN : N < la.length ∨ N = la.length ∨ N = lb.length := (by omega); have hN1 : N ≤ 1000000 := (by omega); have hM : max (la.length : Int) (lb.length : Int) = (N : Int) := (by omega)
 have HN := Lib.hid (show ∀ k, k < N → k < la.length ∨ k < lb.length by intro k; omega)
 clear hN hNN; go_enter Tryz.func144, Tryz.ntmps144
 go_wp2_with (at_make; go_loud (refine Dg _ rfl (.tmp 17) (.tmp 17) 25 rfl Tryz.underlying25 _ _ (N + 1) rfl rfl (by omega) (by omega) (by omega) ?_); intro w1 R0 B0; clear hM)
 go_loopw [7, 8] (fun c i wr => ∃ (k cn : Nat) (L : List Nat), k ≤ N ∧ i = .int .i64 k ∧ c = .int .u32 cn ∧ cn ≤ 1 ∧ Row wr w.heap.size w.heap.size (N + 1) L ∧ Hid (L.length = N + 1) ∧ Below w.heap.size w wr ∧
    Hid (∀ j, k ≤ j → L.getD j 0 = 0) ∧ Hid (val L + 4294967296 ^ k * cn = val (la.take k) + val (lb.take k))) (fun _ i _ => N - (intOf i).toNat)
 case atStart => exact ⟨0, 0, _, Nat.zero_le _, rfl, rfl, by omega, R0, by show _ = _; simp, B0, fun j _ => C3 _ _, by show _ = _; simp [Dc, Ay]⟩
 case round =>
  obtain ⟨k, cn, L, hk, rfl, rfl, hcn, hR, hL, hB, hz, hv⟩ := hrel
  have hRc := hR.cap
  have hRl := hR.lt
  by_cases hlt : k < N
  ·have cR := hR.cell (j := k) (by rw [hL.out]; omega)
   have fR := hR.free k
   generalize L.getD k 0 = z at *
   by_cases hka : k < la.length
   ·obtain ⟨ba, offa, rfl, cA⟩ := hra.at hB hka
    have hx := An hda k
    have hst := fun x y => @Uu la lb L cn k x y N hL.out hz.out hR.dig hcn hlt hda hdb
    generalize la.getD k 0 = x at *
    by_cases hkb : k < lb.length
    ·obtain ⟨bb, offb, rfl, cB⟩ := hrb.at hB hkb
     have hy := An hdb k
     generalize lb.getD k 0 = y at *
     have HST := Lib.hid (hst x y rfl rfl hv.out); have HE1 := Lib.hid (show ((x : Int) + (y : Int) + (cn : Int)) % 4294967296 = (((x + y + cn) % 4294967296 : Nat) : Int) by omega); clear hst hra hrb
     go_wp2_with (go_at_call 193; refine (Rx (by omega) (by omega) (by omega) (by omega) (by omega) (by omega)).mono ?_; rintro e w' ⟨rfl, rfl⟩)
     go_roundw
     case rel =>
      obtain ⟨s1, s2, s3, s4⟩ := HST.out; rw [HE1.out]
      exact ⟨k + 1, (x + y + cn) / 4294967296, L.set k ((x + y + cn) % 4294967296), by omega, by go_num, by go_num, s2, hR.set k (by omega), by show _ = _; rw [List.length_set]; exact hL.out, hB.setCell (Nat.le_refl _) _, s3, s4⟩
     case measure => simp [intOf]; omega
    ·have HST := Lib.hid (hst x 0 rfl (Ka hkb) hv.out); have HE1 := Lib.hid (show ((x : Int) + (cn : Int)) % 4294967296 = (((x + 0 + cn) % 4294967296 : Nat) : Int) by omega); clear hst hra hrb
     go_wp2_with (go_at_call 193; refine (Rx (by omega) (by omega) (by omega) (by omega) (by omega) (by omega)).mono ?_; rintro e w' ⟨rfl, rfl⟩)
     go_roundw
     case rel =>
      obtain ⟨s1, s2, s3, s4⟩ := HST.out; rw [HE1.out]
      exact ⟨k + 1, (x + 0 + cn) / 4294967296, L.set k ((x + 0 + cn) % 4294967296), by omega, by go_num, by go_num, s2, hR.set k (by omega), by show _ = _; rw [List.length_set]; exact hL.out, hB.setCell (Nat.le_refl _) _, s3, s4⟩
     case measure => simp [intOf]; omega
   ·have hkb : k < lb.length := by rcases HN.out k hlt with h | h <;> omega
    obtain ⟨bb, offb, rfl, cB⟩ := hrb.at hB hkb
    have hy := An hdb k
    have hst := fun y => @Uu la lb L cn k 0 y N hL.out hz.out hR.dig hcn hlt hda hdb (Ka hka)
    generalize lb.getD k 0 = y at *
    have HST := Lib.hid (hst y rfl hv.out); have HE1 := Lib.hid (show ((y : Int) + (cn : Int)) % 4294967296 = (((0 + y + cn) % 4294967296 : Nat) : Int) by omega); clear hst hra hrb
    go_wp2_with (go_at_call 193; refine (Rx (by omega) (by omega) (by omega) (by omega) (by omega) (by omega)).mono ?_; rintro e w' ⟨rfl, rfl⟩)
    go_roundw
    case rel =>
     obtain ⟨s1, s2, s3, s4⟩ := HST.out; rw [HE1.out]
     exact ⟨k + 1, (0 + y + cn) / 4294967296, L.set k ((0 + y + cn) % 4294967296), by omega, by go_num, by go_num, s2, hR.set k (by omega), by show _ = _; rw [List.length_set]; exact hL.out, hB.setCell (Nat.le_refl _) _, s3, s4⟩
    case measure => simp [intOf]; omega
  ·obtain rfl : k = N := by omega
   have cR := hR.cell (j := k) (by rw [hL.out]; omega)
   have fR := hR.free k
   generalize L.getD k 0 = z at *
   have HV := Lib.hid (Qhc hL.out hz.out hNa hNb hv.out)
   have HR2 := hR.set k (d := cn) (by omega)
   have HLL := Lib.hid (show (L.set k cn).length = k + 1 by rw [List.length_set]; exact hL.out)
   clear hra hrb
   go_wp2_with (go_at_call 107; refine (Eg _ _ _ _ (show Own _ _ _ _ from by have := HR2; unfold Row at this; rw [HLL.out] at this; exact this)).mono ?_; rintro e w2 ⟨v, rfl, ho, rfl⟩)
   go_ret; rw [HV.out] at ho; exact ⟨v, rfl, ho, hB.setCell (Nat.le_refl _) _⟩
theorem Vj {x y c : Int} (hx0 : 0 ≤ x) (hx : x < 4294967296) (hy0 : 0 ≤ y) (hy : y < 4294967296) (hc0 : 0 ≤ c) (hc : c ≤ 1) (h : y + c ≤ x) :
  Calls Tryz.prog 194 #[.int .u32 x, .int .u32 y, .int .u32 c] w fun e w' => e = .returned (.tuple #[.int .u32 (x - y - c), .int .u32 0]) ∧ w = w' := by
 obtain ⟨x, rfl⟩ := Int.eq_ofNat_of_zero_le hx0; obtain ⟨y, rfl⟩ := Int.eq_ofNat_of_zero_le hy0; obtain ⟨c, rfl⟩ := Int.eq_ofNat_of_zero_le hc0
 refine (Yx (by omega) (by omega) (by omega)).mono ?_
 rintro e w' ⟨rfl, rfl⟩
 refine ⟨Mb (by omega) ?_, rfl⟩
 unfold H4; rw [if_neg (by omega)]; rfl
theorem X9 {x y c : Int} (hx0 : 0 ≤ x) (hx : x < 4294967296) (hy0 : 0 ≤ y) (hy : y < 4294967296) (hc0 : 0 ≤ c) (hc : c ≤ 1) (h : x < y + c) :
  Calls Tryz.prog 194 #[.int .u32 x, .int .u32 y, .int .u32 c] w fun e w' => e = .returned (.tuple #[.int .u32 (x - y - c + 4294967296), .int .u32 1]) ∧ w = w' := by
 obtain ⟨x, rfl⟩ := Int.eq_ofNat_of_zero_le hx0; obtain ⟨y, rfl⟩ := Int.eq_ofNat_of_zero_le hy0; obtain ⟨c, rfl⟩ := Int.eq_ofNat_of_zero_le hc0
 refine (Yx (by omega) (by omega) (by omega)).mono ?_
 rintro e w' ⟨rfl, rfl⟩
 refine ⟨Mb (by omega) ?_, rfl⟩
 unfold H4; rw [if_pos (by omega)]; rfl
theorem M4 (w : World) (u v : Value) (la lb : List Nat) (hu : Rd w u la) (hv : Rd w v lb) (hlen : lb.length ≤ la.length) (hle : val lb ≤ val la) (hla : la.length ≤ 1000000) :
  Calls Tryz.prog 145 #[u, v] w fun e w' => ∃ z, e = .returned z ∧ Own w' w.heap.size z (nf (val la - val lb)) ∧ Below w.heap.size w w' := by
 obtain ⟨a, capa, rfl, _, _, hda, hra⟩ := hu; obtain ⟨b, capb, rfl, _, _, hdb, hrb⟩ := hv; have HLE := Lib.hid hle; clear hle; go_enter Tryz.func145, Tryz.ntmps145
 go_wp2_with (at_make; go_loud (refine Dg _ rfl (.tmp 10) (.tmp 10) 25 rfl Tryz.underlying25 _ _ la.length rfl rfl (by omega) (by omega) (by omega) ?_); intro w1 R0 B0)
 go_loopw [6, 14] (fun c i wr => ∃ (k cn : Nat) (L : List Nat), k ≤ la.length ∧ i = .int .i64 k ∧ c = .int .u32 cn ∧ cn ≤ 1 ∧ Row wr w.heap.size w.heap.size la.length L ∧ Hid (L.length = la.length) ∧ Below w.heap.size w wr ∧
   Hid (∀ j, k ≤ j → L.getD j 0 = 0) ∧ Hid (val L + val (lb.take k) = val (la.take k) + 4294967296 ^ k * cn)) (fun _ i _ => la.length - (intOf i).toNat)
 case atStart => exact ⟨0, 0, _, Nat.zero_le _, rfl, rfl, by omega, R0, by show _ = _; simp, B0, fun j _ => C3 _ _, by show _ = _; simp [Dc, Ay]⟩
 case round =>
  obtain ⟨k, cn, L, hk, rfl, rfl, hcn, hR, hL, hB, hz, hv⟩ := hrel
  have hRc := hR.cap
  have hRl := hR.lt
  by_cases hlt : k < la.length
  ·obtain ⟨ba, offa, rfl, cA⟩ := hra.at hB hlt
   have hst := fun x y d c' => @Yy la lb L cn k d c' x y hL.out hz.out hlt
   have cR := hR.cell (j := k) (by rw [hL.out]; omega)
   have fR := hR.free k
   have hx := An hda k
   generalize hgx : la.getD k 0 = x at *
   have hst := fun y d c' => hst x y d c' rfl hv.out
   clear hgx
   generalize L.getD k 0 = z at *
   by_cases hltb : k < lb.length
   ·obtain ⟨bb, offb, rfl, cB⟩ := hrb.at hB hltb
    have hy := An hdb k
    generalize hgy : lb.getD k 0 = y at *
    have hst := fun d c' => hst y d c' (.inl ⟨hltb, rfl⟩)
    clear hgy
    by_cases hge : y + cn ≤ x
    ·have HST := Lib.hid (hst (x - y - cn) 0 (by omega)); clear hst hra hrb
     go_wp2_with (go_at_call 194; refine (Vj (by omega) (by omega) (by omega) (by omega) (by omega) (by omega) (by omega)).mono ?_; rintro e w' ⟨rfl, rfl⟩)
     go_roundw
     case rel =>
      obtain ⟨s1, s2⟩ := HST.out
      rw [show ((x : Int) - (y : Int) - (cn : Int)) = ((x - y - cn : Nat) : Int) by omega]
      exact ⟨k + 1, 0, _, by omega, by go_num, by go_num, by omega, hR.set k (by omega), by show _ = _; rw [List.length_set]; exact hL.out, hB.setCell (Nat.le_refl _) _, s1, s2⟩
     case measure => simp [intOf]; omega
    ·have HST := Lib.hid (hst (x + 4294967296 - y - cn) 1 (by omega)); clear hst hra hrb
     go_wp2_with (go_at_call 194; refine (X9 (by omega) (by omega) (by omega) (by omega) (by omega) (by omega) (by omega)).mono ?_; rintro e w' ⟨rfl, rfl⟩)
     go_roundw
     case rel =>
      obtain ⟨s1, s2⟩ := HST.out
      rw [show ((x : Int) - (y : Int) - (cn : Int) + 4294967296) = ((x + 4294967296 - y - cn : Nat) : Int) by omega]
      exact ⟨k + 1, 1, _, by omega, by go_num, by go_num, by omega, hR.set k (by omega), by show _ = _; rw [List.length_set]; exact hL.out, hB.setCell (Nat.le_refl _) _, s1, s2⟩
     case measure => simp [intOf]; omega
   ·have hst := fun d c' => hst 0 d c' (.inr ⟨by omega, rfl⟩)
    by_cases hge : cn ≤ x
    ·have HST := Lib.hid (hst (x - 0 - cn) 0 (by omega)); clear hst hra hrb
     go_wp2_with (go_at_call 194; refine (Vj (by omega) (by omega) (by omega) (by omega) (by omega) (by omega) (by omega)).mono ?_; rintro e w' ⟨rfl, rfl⟩)
     go_roundw
     case rel =>
      obtain ⟨s1, s2⟩ := HST.out
      first | rw [show ((x : Int) - (cn : Int)) = ((x - 0 - cn : Nat) : Int) by omega] | rw [show ((x : Int) - 0 - (cn : Int)) = ((x - 0 - cn : Nat) : Int) by omega]
      exact ⟨k + 1, 0, _, by omega, by go_num, by go_num, by omega, hR.set k (by omega), by show _ = _; rw [List.length_set]; exact hL.out, hB.setCell (Nat.le_refl _) _, s1, s2⟩
     case measure => simp [intOf]; omega
    ·have HST := Lib.hid (hst (x + 4294967296 - 0 - cn) 1 (by omega)); clear hst hra hrb
     go_wp2_with (go_at_call 194; refine (X9 (by omega) (by omega) (by omega) (by omega) (by omega) (by omega) (by omega)).mono ?_; rintro e w' ⟨rfl, rfl⟩)
     go_roundw
     case rel =>
      obtain ⟨s1, s2⟩ := HST.out
      first | rw [show ((x : Int) - (cn : Int) + 4294967296) = ((x + 4294967296 - 0 - cn : Nat) : Int) by omega] | rw [show ((x : Int) - 0 - (cn : Int) + 4294967296) = ((x + 4294967296 - 0 - cn : Nat) : Int) by omega]
      exact ⟨k + 1, 1, _, by omega, by go_num, by go_num, by omega, hR.set k (by omega), by show _ = _; rw [List.length_set]; exact hL.out, hB.setCell (Nat.le_refl _) _, s1, s2⟩
     case measure => simp [intOf]; omega
  ·have hkl : k = la.length := by omega
   subst hkl; have HV := Lib.hid (Sx hR.dig hL.out hlen HLE.out hv.out)
   have HR2 := hR
   clear hra hrb
   go_wp2_with (go_at_call 107; refine (Eg _ _ _ _ (show Own _ _ _ _ from by have := HR2; unfold Row at this; rw [hL.out] at this; exact this)).mono ?_; rintro e w2 ⟨v, rfl, ho, rfl⟩)
   go_ret; rw [HV.out] at ho; exact ⟨v, rfl, ho, hB⟩
theorem Hq (w : World) (u v : Value) (xs ys : List Nat) (hu : Rd w u xs) (hv : Rd w v ys) (hx1 : xs.length ≤ 1000000) (hy1 : ys.length ≤ 1000000) :
  Calls Tryz.prog 67 #[u, v] w fun e w' => ∃ z, e = .returned z ∧ Own w' w.heap.size z (nf (val xs * val ys)) ∧ Below w.heap.size w w' := by
 obtain ⟨a, capa, rfl, _, _, hda, hra⟩ := hu; obtain ⟨b, capb, rfl, _, _, hdb, hrb⟩ := hv
 by_cases h11 : xs.length = 1 ∧ ys.length = 1
 ·obtain ⟨h1, h2⟩ := h11; obtain ⟨x, rfl⟩ : ∃ x, xs = [x] := List.length_eq_one_iff.1 h1; obtain ⟨y, rfl⟩ : ∃ y, ys = [y] := List.length_eq_one_iff.1 h2; clear h1 h2 hx1 hy1; obtain ⟨ba, offa, rfl, cA⟩ := hra (by simp); obtain ⟨bb, offb, rfl, cB⟩ := hrb (by simp)
  have cA := cA 0 (by simp)
  have cB := cB 0 (by simp)
  have hx := hda x (by simp)
  have hy := hdb y (by simp)
  have hm := Kk hx hy
  have HW := Lib.hid (show IntKind.u64.wrap (IntKind.u64.wrap (x : Int) * IntKind.u64.wrap (y : Int)) = ((x * y : Nat) : Int) by
   rw [show IntKind.u64.wrap (x : Int) = x by rw [IntKind.wrap_u64]; omega, show IntKind.u64.wrap (y : Int) = y by rw [IntKind.wrap_u64]; omega, IntKind.wrap_u64, Int.natCast_mul, Int.emod_eq_of_lt hm.1 (by omega)])
  have HL := Lib.hid (show x * y < 18446744073709551616 by have := hm.2; rw [← Int.natCast_mul] at this; omega)
  have hvx : val [x] * val [y] = x * y := by simp [Bp, Ay]
  rw [hvx]; clear hra hrb hda hdb hvx; simp only [List.getD_eq_getElem?_getD, List.getElem?_cons_zero, Option.getD_some, Nat.add_zero, List.length_cons, List.length_nil, Nat.zero_add] at cA cB ⊢; go_enter Tryz.func67, Tryz.ntmps67; go_wp2_with fail
  go_region_held3 (fun w' => w'.cell? ⟨ba, offa, none⟩ = some (.int .u32 (x : Int)) ∧ w'.cell? ⟨bb, offb, none⟩ = some (.int .u32 (y : Int)))
   (first | go_keep | (go_split_ands; exact ⟨keepc (by assumption) (by assumption), keepc (by assumption) (by assumption)⟩))
   (first
   | (go_at_call 100; rw [HW.out]; refine (Jc _ (x * y) HL.out).mono ?_; rintro e w' ⟨z, rfl, hz, hb⟩))
  go_wp2; go_ret; exact ⟨_, rfl, hz, Ar (D0 (Below.refl _ _)) hb⟩
 ·have hb : ((xs.length : Int) == 1) = false ∨ ((xs.length : Int) == 1) = true ∧ ((ys.length : Int) == 1) = false := by
   simp only [beq_eq_false_iff_ne, beq_iff_eq]; omega
  clear h11; go_enter Tryz.func67, Tryz.ntmps67
  rcases hb with hb1 | ⟨hb1, hb2⟩
  all_goals
   go_wp2_with (at_make; go_loud (refine Dg _ rfl (.tmp 34) (.tmp 34) 25 rfl Tryz.underlying25 _ _ (xs.length + ys.length) rfl rfl (by omega) (by omega) (by omega) ?_); intro w1 R0 B0)
   go_loopw [38] (fun i wr => ∃ (k : Nat) (L : List Nat), k ≤ xs.length ∧ i = .int .i64 k ∧ Row wr w.heap.size w.heap.size (xs.length + ys.length) L ∧ Hid (L.length = xs.length + ys.length) ∧ Below w.heap.size w wr ∧
     Hid (∀ j, k + ys.length ≤ j → L.getD j 0 = 0) ∧ Hid (val L = val (xs.take k) * val ys)) (fun i _ => xs.length - (intOf i).toNat)
   case atStart => exact ⟨0, _, Nat.zero_le _, rfl, R0, by show _ = _; simp, B0, fun j _ => C3 _ _, by show _ = _; simp [Dc, Ay]⟩
   case round =>
    obtain ⟨i, L0, hi, rfl, hR0, hL0, hB0, hz0, hv0⟩ := hrel; obtain ⟨wo, hwo⟩ : ∃ wo : World, wo = wr := ⟨_, rfl⟩; subst hwo
    by_cases hlt : i < xs.length
    ·obtain ⟨ba, offa, rfl, cA⟩ := hra.at hB0 hlt
     have hx := An hda i
     have HX := Lib.hid (Ds xs i hlt)
     generalize xs.getD i 0 = x at *
     have hrow0 := hR0.lt
     go_wp2
     go_loopw [8, 45] (fun c i' wr => ∃ (k cn : Nat) (L : List Nat), k ≤ ys.length ∧ i' = .int .i64 k ∧ c = .int .u64 cn ∧ cn < 4294967296 ∧ Row wr w.heap.size w.heap.size (xs.length + ys.length) L ∧ Hid (L.length = xs.length + ys.length) ∧ Below w.heap.size w wr ∧
       Hid (∀ j, i + ys.length ≤ j → L.getD j 0 = 0) ∧ Hid (val L + 4294967296 ^ (i + k) * cn = val (xs.take i) * val ys + 4294967296 ^ i * (x * val (ys.take k)))) (fun _ i' _ => ys.length - (intOf i').toNat)
     case atStart => exact ⟨0, 0, L0, Nat.zero_le _, rfl, rfl, by omega, hR0, hL0, hB0, hz0, by show _ = _; rw [hv0.out]; simp [Ay]⟩
     case round =>
      obtain ⟨k, cn, L, hk, rfl, rfl, hcn, hR, hL, hB, hz, hv⟩ := hrel
      have hRl := hR.lt
      have hRc := hR.cap
      by_cases hltb : k < ys.length
      ·obtain ⟨bb, offb, rfl, cB⟩ := hrb.at hB hltb
       have hy := An hdb k
       have hst := fun y => @Y7 L (val (xs.take i) * val ys) i k cn x y (val (ys.take k)) ys.length (by rw [hL.out]; omega) hltb hR.dig hx
       have hvt := Ds ys k hltb
       generalize ys.getD k 0 = y at *
       have cR := hR.cell (j := i + k) (by rw [hL.out]; omega)
       have fR := hR.free (i + k)
       have hdz := An hR.dig (i + k)
       have hst := hst y hy hcn hz.out (L.getD (i + k) 0) rfl hv.out
       generalize L.getD (i + k) 0 = z at *
       rw [← hvt] at hst; have HST := Lib.hid hst
       have hm := Kk hx hy
       clear hst hvt hra hrb; go_wp2
       go_roundw
       case rel =>
        obtain ⟨s1, s2, s3, s4⟩ := HST.out
        have e0 : (x : Int) * (y : Int) + (z : Int) + (cn : Int) = ((cn + x * y + z : Nat) : Int) := by
         rw [Int.natCast_add, Int.natCast_add, Int.natCast_mul]; omega
        rw [e0]; have e1 : ((cn + x * y + z : Nat) : Int) % 4294967296 = (((cn + x * y + z) % 4294967296 : Nat) : Int) := (by omega); rw [e1]
        exact ⟨k + 1, (cn + x * y + z) / 4294967296, _, by omega, by go_num, by go_num, s2, hR.set (i + k) (by omega), by show _ = _; rw [List.length_set]; exact hL.out, hB.setCell (Nat.le_refl _) _, s3, s4⟩
       case measure => simp [intOf]; omega
      ·have hkl : k = ys.length := by omega
       subst hkl
       have cR := hR.cell (j := i + ys.length) (by rw [hL.out]; omega)
       have fR := hR.free (i + ys.length)
       generalize L.getD (i + ys.length) 0 = z at *
       have hv2 := hv.out
       rw [List.take_length] at hv2
       have hst := X0 (by rw [hL.out]; omega) hz.out hv2
       rw [← HX.out] at hst; have HST := Lib.hid hst; clear hst hv2 hra hrb; go_wp2
       go_roundw
       case rel =>
        obtain ⟨s1, s2⟩ := HST.out
        exact ⟨i + 1, _, by omega, by go_num, hR.set (i + ys.length) hcn, by show _ = _; rw [List.length_set]; exact hL.out, hB.setCell (Nat.le_refl _) _, s1, s2⟩
       case measure => simp [intOf]; omega
    ·have hil : i = xs.length := by omega
     subst hil
     have hv2 := hv0.out
     rw [List.take_length] at hv2; have HV := Lib.hid hv2; clear hv2 hra hrb
     go_wp2_with (go_at_call 107; refine (Eg _ _ _ _ (show Own _ _ _ _ from by have := hR0; unfold Row at this; rw [hL0.out] at this; exact this)).mono ?_; rintro e w2 ⟨v, rfl, ho, rfl⟩)
     go_ret; rw [HV.out] at ho; exact ⟨v, rfl, ho, hB0⟩
end
section
section
variable {w : World} {u v : Value} {m n km kn : Nat}
theorem Qjm (hu : Nn w u m km) (hv : Nn w v n kn) (hk : km ≤ 900000) (hk2 : kn ≤ 900000) : Calls Tryz.prog 144 #[u, v] w (C8 w (m + n) (max km kn + 1)) := by
 obtain ⟨h1, l1⟩ := hu; obtain ⟨h2, l2⟩ := hv
 have hc := Qir _ _ _ _ _ h1 h2 (by omega) (by omega)
 rw [Ah, Ah] at hc
 refine hc.mono ?_
 rintro e w' ⟨z, rfl, hz, hb⟩
 exact .mk (.of_own hz (Vi l1 l2)) hb
theorem Qlx (hu : Nn w u m km) (hv : Nn w v n kn) (hk : km ≤ 900000) (h : n ≤ m) : Calls Tryz.prog 145 #[u, v] w (C8 w (m - n) km) := by
 obtain ⟨h1, l1⟩ := hu; obtain ⟨h2, l2⟩ := hv
 have hc := M4 _ _ _ _ _ h1 h2 (D4 h) (by rw [Ah, Ah]; exact h) (by omega)
 rw [Ah, Ah] at hc
 refine hc.mono ?_
 rintro e w' ⟨z, rfl, hz, hb⟩
 exact .mk (.of_own hz (E5 (Nat.sub_le _ _) l1)) hb
theorem Qf6 (hu : Nn w u m km) (hv : Nn w v n kn) (hk : km ≤ 900000) (hk2 : kn ≤ 900000) : Calls Tryz.prog 67 #[u, v] w (C8 w (m * n) (km + kn)) := by
 obtain ⟨h1, l1⟩ := hu; obtain ⟨h2, l2⟩ := hv
 have hc := Hq _ _ _ _ _ h1 h2 (by omega) (by omega)
 rw [Ah, Ah] at hc
 refine hc.mono ?_
 rintro e w' ⟨z, rfl, hz, hb⟩
 exact .mk (.of_own hz (F3 l1 l2 (Nat.le_refl _))) hb
theorem Qf1 {x : Nat} (hx : x < 18446744073709551616) : Calls Tryz.prog 100 #[.int .u64 (x : Int)] w (C8 w x 2) := by
 refine (Jc _ x hx).mono ?_
 rintro e w' ⟨z, rfl, hz, hb⟩
 exact .mk (.of_own hz (Bi (by omega))) hb
theorem Qb4 {x : Int} (h0 : 0 ≤ x) (h : x < 18446744073709551616) : Calls Tryz.prog 100 #[.int .u64 x] w (C8 w x.natAbs 2) := by
 obtain ⟨n, rfl⟩ := Int.eq_ofNat_of_zero_le h0; exact Qf1 (by omega)
theorem Qlz {m k c : Nat} (h : (nf m).length ≤ c) : (nf (m * 2 ^ k)).length ≤ c + (k / 32 + 1) := by
 refine F3 h (Bi ?_) (Nat.le_refl _)
 rw [show (4294967296 : Nat) = 2 ^ 32 by decide, ← Nat.pow_mul]
 exact Nat.pow_lt_pow_right (by omega) (by omega)
theorem Qnh : Calls Tryz.prog 73 #[] w (C8 w 1 1) := by
 go_enter Tryz.func73, Tryz.ntmps73; go_wp2; go_ret; exact ⟨_, _, _, rfl, Nn.lit1, Bh _ _⟩
end
theorem Qf8 {a b : Int} (h : a = b) : Ending.returned (.tuple #[.int .u64 a, .bool true]) = Ending.returned (.tuple #[.int .u64 b, .bool true]) := by rw [h]
theorem Jd {w : World} {u : Value} {m km : Nat} (hu : Nn w u m km) : Calls Tryz.prog 146 #[u] w fun e w' => e = .returned (Dx m) ∧ ∃ j, w' = w.drewN j := by
 obtain ⟨⟨a, cap, rfl, hc, hcm, hd, hr⟩, hl⟩ := hu
 rcases Xd m with ⟨hn, hl⟩ | ⟨d0, b0, hn, hl⟩ | ⟨d0, d1, b0, b1, hn, hl⟩ | ⟨hn, hl⟩
 ·rw [hl] at hr hc ⊢
  have HN := Lib.hid (show Dx m = .tuple #[.int .u64 0, .bool true] by rw [hn]; exact Cv (by omega))
  clear hl hn hd hr; go_enter Tryz.func146, Tryz.ntmps146; go_wp2; go_ret2
  exact ⟨by rw [HN.out]; rfl, 0, rfl⟩
 ·rw [hl] at hr hc ⊢; obtain ⟨b, off, rfl, hcell⟩ := hr (by simp)
  have c0 := hcell 0 (by simp)
  have HN := Lib.hid (show Dx m = .tuple #[.int .u64 (d0 : Int), .bool true] by rw [hn]; exact Cv (by omega))
  simp only [List.length_cons, List.length_nil, Nat.reduceAdd, List.getD_eq_getElem?_getD, List.getElem?_cons_zero, Option.getD_some, Nat.add_zero] at c0 hc ⊢; clear hcell hn hl hr hd; go_enter Tryz.func146, Tryz.ntmps146; go_wp2; go_ret2
  exact ⟨by rw [HN.out]; rfl, 0, rfl⟩
 ·rw [hl] at hr hc ⊢; obtain ⟨b, off, rfl, hcell⟩ := hr (by simp)
  have c0 := hcell 0 (by simp)
  have c1 := hcell 1 (by simp)
  have HN := Lib.hid (show Dx m = .tuple #[.int .u64 ((d0 : Int) + 4294967296 * (d1 : Int)), .bool true] by rw [hn, Cv (by omega)]; rfl)
  simp only [List.length_cons, List.length_nil, Nat.reduceAdd, List.getD_eq_getElem?_getD, List.getElem?_cons_zero, List.getElem?_cons_succ, Option.getD_some, Nat.add_zero] at c0 c1 hc ⊢
  have ho2 := Ii d0 d1 b0 b1
  have HO := Lib.hid ho2; clear hcell hn hl hr hd ho2; go_enter Tryz.func146, Tryz.ntmps146; go_wp2
  go_quiet (fail)
  go_wp2; go_ret2
  refine ⟨?_, _, rfl⟩
  rw [HN.out]; exact Qf8 HO.out
 ·have HN := Lib.hid (Hu hn)
  generalize (nf m).length = n at *
  have h0 : ((n : Int) == 0) = false := by rw [beq_eq_false_iff_ne]; omega
  have h1 : ((n : Int) == 1) = false := by rw [beq_eq_false_iff_ne]; omega
  have h2 : ((n : Int) == 2) = false := by rw [beq_eq_false_iff_ne]; omega
  clear hn hr hd; go_enter Tryz.func146, Tryz.ntmps146; go_wp2; go_ret2
  exact ⟨by rw [HN.out]; rfl, 0, rfl⟩
end
end Go.Proofs.YtpnpnlmlamfpmaaGreatDoor
