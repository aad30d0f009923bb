import Derived.Test.YtpnpnlmlamfpmaaGreatDoorS28
namespace Go.Proofs.YtpnpnlmlamfpmaaGreatDoor
set_option linter.unusedSimpArgs false
set_option linter.unusedVariables false
set_option maxHeartbeats 4000000
set_option maxRecDepth 100000
set_option synthInstance.maxHeartbeats 1000000
set_option synthInstance.maxSize 100000
open Go.RowKit Cel
def Rj (w : World) (x y : Rat) (k : Nat) (o : Bool) (e : Ending) (w' : World) : Prop := ∃ v : PV, e = .returned (.tuple #[.agg #[.int .i64 v.x.n, .int .i64 v.x.d, .pointer v.x.p, .int .i64 v.y.n, .int .i64 v.y.d, .pointer v.y.p], .bool o]) ∧ CF w' (.agg #[.int .i64 v.x.n, .int .i64 v.x.d, .pointer v.x.p]) x k ∧ CF w' (.agg #[.int .i64 v.y.n, .int .i64 v.y.d, .pointer v.y.p]) y k ∧ Below w.heap.size w w'
variable {w : World} {x y : Rat}
theorem Ee {P : Program} {f : FuncId} {args : Array Value} {k : Nat} {o : Bool} {K : Ending → World → Prop} (h : Calls P f args w (Rj w x y k o))
  (hK : ∀ w' [Kp1 w w'] (v : PV) [CF w' (.agg #[.int .i64 v.x.n, .int .i64 v.x.d, .pointer v.x.p]) x k] [CF w' (.agg #[.int .i64 v.y.n, .int .i64 v.y.d, .pointer v.y.p]) y k], K (.returned (.tuple #[.agg #[.int .i64 v.x.n, .int .i64 v.x.d, .pointer v.x.p, .int .i64 v.y.n, .int .i64 v.y.d, .pointer v.y.p], .bool o])) w') : Calls P f args w K := by
 refine h.mono ?_
 rintro e w' ⟨v, rfl, h1, h2, hb⟩
 exact @hK w' ⟨hb⟩ v h1 h2
variable {e : GW} {f : FQ}
theorem I7 [h : Fk w e f] (hn : f.v.nl = false) : Calls Tryz.prog 131 #[.agg #[.int .i64 e.l.x.n, .int .i64 e.l.x.d, .pointer e.l.x.p, .int .i64 e.l.y.n, .int .i64 e.l.y.d, .pointer e.l.y.p, .int .i64 e.l.z.n, .int .i64 e.l.z.d, .pointer e.l.z.p, .int .i64 e.i.u.n, .int .i64 e.i.u.d, .pointer e.i.u.p, .int .i64 e.i.v.n, .int .i64 e.i.v.d, .pointer e.i.v.p, .bool e.i.nl, .bool e.i.nh]] w (Rj w (f.l.at' f.v.lo).1 (f.l.at' f.v.lo).2 7090 true) := by
 have hb : e.i.nl = false := h.i.nl.trans hn
 go_enter Tryz.func131, Tryz.ntmps131
 go_wp2_with (first | (go_at_call 176; refine Au (atC (by omega)) ?_; intros))
 refine B6 rfl Tryz.underlying98 rfl (by kernel_rfl) rfl rfl rfl ?_
 exact ⟨⟨⟨_, _, _⟩, ⟨_, _, _⟩⟩, rfl, ii, ii, (ii : Kp w _).out⟩
theorem Ij [h : Fk w e f] (hn : f.v.nh = false) : Calls Tryz.prog 132 #[.agg #[.int .i64 e.l.x.n, .int .i64 e.l.x.d, .pointer e.l.x.p, .int .i64 e.l.y.n, .int .i64 e.l.y.d, .pointer e.l.y.p, .int .i64 e.l.z.n, .int .i64 e.l.z.d, .pointer e.l.z.p, .int .i64 e.i.u.n, .int .i64 e.i.u.d, .pointer e.i.u.p, .int .i64 e.i.v.n, .int .i64 e.i.v.d, .pointer e.i.v.p, .bool e.i.nl, .bool e.i.nh]] w (Rj w (f.l.at' f.v.hi).1 (f.l.at' f.v.hi).2 7090 true) := by
 have hb : e.i.nh = false := h.i.nh.trans hn
 go_enter Tryz.func132, Tryz.ntmps132
 go_wp2_with (first | (go_at_call 176; refine Au (atC (by omega)) ?_; intros))
 refine B6 rfl Tryz.underlying98 rfl (by kernel_rfl) rfl rfl rfl ?_
 exact ⟨⟨⟨_, _, _⟩, ⟨_, _, _⟩⟩, rfl, ii, ii, (ii : Kp w _).out⟩
theorem Ui (a b : Rat) : ∃ s : Int, isgn (a - b).num = s ∧ ((0 < s) ↔ b < a) ∧ (s ≤ 0 ↔ a ≤ b) := by
 rcases I4 a b with ⟨h, e⟩ | ⟨h, e⟩ | ⟨h, e⟩ <;> refine ⟨_, e, ?_, ?_⟩ <;> constructor <;> intro k <;> first | grind | (exfalso; revert k; decide)
variable {d1 d2 n1 n2 : Int} {p1 : Option Addr}
theorem Qkp [h : Fk w e f] {p2 : Option Addr} [hx : CF w (.agg #[.int .i64 n1, .int .i64 d1, .pointer p1]) x 22600] [hy : CF w (.agg #[.int .i64 n2, .int .i64 d2, .pointer p2]) y 22600] (hf : f.v.nl = false ∧ f.v.nh = false) : Calls Tryz.prog 87 #[.agg #[.int .i64 e.l.x.n, .int .i64 e.l.x.d, .pointer e.l.x.p, .int .i64 e.l.y.n, .int .i64 e.l.y.d, .pointer e.l.y.p, .int .i64 e.l.z.n, .int .i64 e.l.z.d, .pointer e.l.z.p, .int .i64 e.i.u.n, .int .i64 e.i.u.d, .pointer e.i.u.p, .int .i64 e.i.v.n, .int .i64 e.i.v.d, .pointer e.i.v.p, .bool e.i.nl, .bool e.i.nh], .agg #[.int .i64 n1, .int .i64 d1, .pointer p1, .int .i64 n2, .int .i64 d2, .pointer p2]] w (fun e w' => e = .returned (.int .i64 (Eb f (x, y))) ∧ Below w.heap.size w w') := by
 have hmf : ∀ (fn : Fn) (first cap : Array Value) (w : World), (Instr.makeFunc fn first cap).run Tryz.prog w = .ok (.func fn first cap) w := fun _ _ _ _ => rfl
 have hfld : ∀ (n1 d1 n2 d2 : Int) (p1 p2 : Option Addr) (W : World), (Instr.field 98 (.agg #[.int .i64 n1, .int .i64 d1, .pointer p1, .int .i64 n2, .int .i64 d2, .pointer p2]) 1).run Tryz.prog W = .ok (.agg #[.int .i64 n2, .int .i64 d2, .pointer p2]) W := fun _ _ _ _ _ _ _ => by kernel_rfl
 obtain ⟨R, hR⟩ : ∃ z, Eb f (x, y) = z := ⟨_, rfl⟩; rw [hR]; unfold Eb at hR; obtain ⟨sU, hsU⟩ : ∃ s, sgn' (-f.l.a) = s := ⟨_, rfl⟩; obtain ⟨sV, hsV⟩ : ∃ s, sgn' (f.l.val (x, y)) = s := ⟨_, rfl⟩
 have HU : Hid (isgn (-f.l.a).num = sU) := Lib.hid (by rw [R7, hsU])
 have HV := Lib.hid hsV
 have hUc : sU = -1 ∨ sU = 0 ∨ sU = 1 := by rw [← hsU]; unfold sgn'; grind
 rw [hsU, hsV] at hR; clear hsU hsV; go_enter Tryz.func87, Tryz.ntmps87
 by_cases h0 : sU = 0 ∨ sV ≠ sU
 ·rw [if_pos h0] at hR; subst hR
  by_cases hU0 : sU = 0
  ·have hb0 : (sU == 0) = true := by rw [hU0]; rfl
   go_wp2_with (first | (go_at_call 128; refine Au (Fa (by omega)) ?_; intros) | (go_at_call 129; refine Aa (E8 (by omega) HU) ?_; intros) | (go_at_call 130; refine Aa (Io (by omega) HV) ?_; intros))
   go_ret; exact E.fin rfl
  ·have hb0 : (sU == 0) = false := by simpa using hU0
   have hb1 : (sV != sU) = true := by simpa using h0.resolve_left hU0
   go_wp2_with (first | (go_at_call 128; refine Au (Fa (by omega)) ?_; intros) | (go_at_call 129; refine Aa (E8 (by omega) HU) ?_; intros) | (go_at_call 130; refine Aa (Io (by omega) HV) ?_; intros))
   go_ret; exact E.fin rfl
 ·rw [if_neg h0] at hR
  have hU0 : sU ≠ 0 := fun k => h0 (.inl k)
  have hUV : sV = sU := Classical.byContradiction fun k => h0 (.inr k)
  have hb0 : (sU == 0) = false := by simpa using hU0
  have hb1 : (sV != sU) = false := by simpa using hUV
  obtain ⟨c1, hc1, k1, l1⟩ := Ui (f.l.at' f.v.lo).2 y; obtain ⟨c2, hc2, k2, l2⟩ := Ui (f.l.at' f.v.hi).2 y; have H1 := Lib.hid hc1; have H2 := Lib.hid hc2; clear hc1 hc2; clear h0 hUV
  go_upto_region 4 with (first | (go_at_call 128; refine Au (Fa (by omega)) ?_; intros) | (go_at_call 129; refine Aa (E8 (by omega) HU) ?_; intros) | (go_at_call 130; refine Aa (Io (by omega) HV) ?_; intros))
  refine rgn [] [] fun hH => ?_; refine tk 0 hH ?_; refine tk 1 hH ?_; refine tk 2 hH ?_; refine tk 3 hH ?_; refine tk 4 hH ?_; refine tk 5 hH (dn ?_); clear hH
  rcases hUc with hU | hU | hU
  ·subst hU; rw [if_pos (by decide)] at hR
   by_cases g1 : 0 < c2
   ·rw [if_pos (k2.1 g1)] at hR
    have gd1 : decide (0 < c2) = true := decide_eq_true g1
    subst hR; clear k1 k2 l1 l2
    as_aux_lemma =>
     go_wp2_with (first | (go_at_call 131; refine Ee (I7 hf.1) ?_; intros) | (go_at_call 132; refine Ee (Ij hf.2) ?_; intros) | (go_at_call 133; refine Aa (Cx (by omega) H2) ?_; intros) | (go_at_call 133; refine Aa (Cx (by omega) H1) ?_; intros))
     go_ret; exact E.fin rfl
   ·rw [if_neg (fun q => g1 (k2.2 q))] at hR
    have gd1 : decide (0 < c2) = false := decide_eq_false g1
    by_cases g2 : c1 ≤ 0
    ·rw [if_pos (l1.1 g2)] at hR
     have gd2 : decide (c1 ≤ 0) = true := decide_eq_true g2
     subst hR; clear k1 k2 l1 l2
     as_aux_lemma =>
      go_wp2_with (first | (go_at_call 131; refine Ee (I7 hf.1) ?_; intros) | (go_at_call 132; refine Ee (Ij hf.2) ?_; intros) | (go_at_call 133; refine Aa (Cx (by omega) H2) ?_; intros) | (go_at_call 133; refine Aa (Cx (by omega) H1) ?_; intros))
      go_ret; exact E.fin rfl
    ·rw [if_neg (fun q => g2 (l1.2 q))] at hR
     have gd2 : decide (c1 ≤ 0) = false := decide_eq_false g2
     subst hR; clear k1 k2 l1 l2
     as_aux_lemma =>
      go_wp2_with (first | (go_at_call 131; refine Ee (I7 hf.1) ?_; intros) | (go_at_call 132; refine Ee (Ij hf.2) ?_; intros) | (go_at_call 133; refine Aa (Cx (by omega) H2) ?_; intros) | (go_at_call 133; refine Aa (Cx (by omega) H1) ?_; intros))
      go_ret; exact E.fin rfl
  ·exact absurd hU hU0
  ·subst hU; rw [if_neg (by decide)] at hR
   by_cases g1 : 0 < c1
   ·rw [if_pos (k1.1 g1)] at hR
    have gd1 : decide (0 < c1) = true := decide_eq_true g1
    subst hR; clear k1 k2 l1 l2
    as_aux_lemma =>
     go_wp2_with (first | (go_at_call 131; refine Ee (I7 hf.1) ?_; intros) | (go_at_call 132; refine Ee (Ij hf.2) ?_; intros) | (go_at_call 133; refine Aa (Cx (by omega) H1) ?_; intros) | (go_at_call 133; refine Aa (Cx (by omega) H2) ?_; intros))
     go_ret; exact E.fin rfl
   ·rw [if_neg (fun q => g1 (k1.2 q))] at hR
    have gd1 : decide (0 < c1) = false := decide_eq_false g1
    by_cases g2 : c2 ≤ 0
    ·rw [if_pos (l2.1 g2)] at hR
     have gd2 : decide (c2 ≤ 0) = true := decide_eq_true g2
     subst hR; clear k1 k2 l1 l2
     as_aux_lemma =>
      go_wp2_with (first | (go_at_call 131; refine Ee (I7 hf.1) ?_; intros) | (go_at_call 132; refine Ee (Ij hf.2) ?_; intros) | (go_at_call 133; refine Aa (Cx (by omega) H1) ?_; intros) | (go_at_call 133; refine Aa (Cx (by omega) H2) ?_; intros))
      go_ret; exact E.fin rfl
    ·rw [if_neg (fun q => g2 (l2.2 q))] at hR
     have gd2 : decide (c2 ≤ 0) = false := decide_eq_false g2
     subst hR; clear k1 k2 l1 l2
     as_aux_lemma =>
      go_wp2_with (first | (go_at_call 131; refine Ee (I7 hf.1) ?_; intros) | (go_at_call 132; refine Ee (Ij hf.2) ?_; intros) | (go_at_call 133; refine Aa (Cx (by omega) H1) ?_; intros) | (go_at_call 133; refine Aa (Cx (by omega) H2) ?_; intros))
      go_ret; exact E.fin rfl
theorem Qke {z : Int} [h : Fk w e f] {p2 : Option Addr} [hx : CF w (.agg #[.int .i64 n1, .int .i64 d1, .pointer p1]) x 22600] [hy : CF w (.agg #[.int .i64 n2, .int .i64 d2, .pointer p2]) y 22600] (hf : f.v.nl = false ∧ f.v.nh = false) (hz : Hid (Eb f (x, y) = z)) : Calls Tryz.prog 87 #[.agg #[.int .i64 e.l.x.n, .int .i64 e.l.x.d, .pointer e.l.x.p, .int .i64 e.l.y.n, .int .i64 e.l.y.d, .pointer e.l.y.p, .int .i64 e.l.z.n, .int .i64 e.l.z.d, .pointer e.l.z.p, .int .i64 e.i.u.n, .int .i64 e.i.u.d, .pointer e.i.u.p, .int .i64 e.i.v.n, .int .i64 e.i.v.d, .pointer e.i.v.p, .bool e.i.nl, .bool e.i.nh], .agg #[.int .i64 n1, .int .i64 d1, .pointer p1, .int .i64 n2, .int .i64 d2, .pointer p2]] w (fun e w' => e = .returned (.int .i64 z) ∧ Below w.heap.size w w') := by rw [← hz.out]; exact Qkp hf
theorem Zv (f : FQ) (p : Rat × Rat) : -1 ≤ Eb f p ∧ Eb f p ≤ 1 := by unfold Eb sgn'; grind
variable {C : List FQ}
theorem Qa0 {p : Rat × Rat} {q : Nat} (h : q < C.length) : Ao (C.take (q + 1)) p = Ao (C.take q) p + Eb (sd C q) p := by
 rw [List.take_succ_eq_append_getElem h, Jt, Bz h]; simp [Ao]
theorem Qz {w0 : World} {a : Option Addr} {n c : Nat} {V : List GW} [hs : Sl w (.slice a n c) V.length (rowW V) w0] [hp : Cw w V C] {p2 : Option Addr} [hx : CF w (.agg #[.int .i64 n1, .int .i64 d1, .pointer p1]) x 22600] [hy : CF w (.agg #[.int .i64 n2, .int .i64 d2, .pointer p2]) y 22600] (hV : V.length ≤ 800000) (hf : ∀ f ∈ C, f.v.nl = false ∧ f.v.nh = false) : Calls Tryz.prog 44 #[.slice a n c, .agg #[.int .i64 n1, .int .i64 d1, .pointer p1, .int .i64 n2, .int .i64 d2, .pointer p2]] w (fun e w' => e = .returned (.int .i64 (Ao C (x, y))) ∧ Below w.heap.size w w') := by
 obtain rfl := hs.len; have hlen := Lib.hid hp.len; go_enter Tryz.func44, Tryz.ntmps44; go_wp2_with fail
 go_loopw [10, 5] (fun i o wr => ∃ (q : Nat) (s : Int), i = .int .i64 (q : Int) ∧ o = .int .i64 s ∧ q ≤ V.length ∧ Hid (s = Ao (C.take q) (x, y)) ∧ -(q : Int) ≤ s ∧ s ≤ (q : Int) ∧ Bx wr w.heap.size 98 [.int .i64 n1, .int .i64 d1, .pointer p1, .int .i64 n2, .int .i64 d2, .pointer p2] ∧ Kp w wr) (fun i _ _ => V.length - (intOf i).toNat)
 case atStart => exact ⟨0, 0, rfl, rfl, by omega, Lib.hid (by simp [Ao]), by omega, by omega, ii, ii⟩
 case round =>
  obtain ⟨q, s, rfl, rfl, hq, hE, b1, b2, i1, i5⟩ := hrel; have kw := Kp1.mk i5.out
  by_cases hlt : q < V.length
  ·obtain ⟨g, rfl, hA⟩ := hs.form (by omega); have hlt' : (q : Int) < V.length := (by omega); have lq : LtN q V.length := ⟨hlt⟩
   have ew : IntKind.i64.wrap ((q : Int) + 1) = (q : Int) + 1 := Ap (by omega) (by omega)
   have hqC : q < C.length := by have := hlen.out; omega
   obtain ⟨z, hz⟩ : ∃ z, Eb (sd C q) (x, y) = z := ⟨_, rfl⟩
   have hzb := Zv (sd C q) (x, y)
   rw [hz] at hzb
   have ez : IntKind.i64.wrap (s + z) = s + z := Ap (by omega) (by omega)
   have hfq := hf (sd C q) (by rw [Bz hqC]; exact List.getElem_mem hqC)
   have HZ := Lib.hid hz
   have hE2 := Qa0 (p := (x, y)) hqC
   rw [hz] at hE2; clear hz
   go_wp2_with (first | refine A0 (t := 165) (x := .tmp 12) rfl rfl rfl (C6 (k := q) hlt) ?_ | (go_at_call 87; refine Aa (Qke hfq HZ) ?_; intros))
   go_roundw
   case rel => exact ⟨q + 1, s + z, by go_num, by first | rfl | go_num, by omega, Lib.hid (by rw [hE2, hE.out]), by omega, by omega, ii, ii⟩
   case measure => simp [intOf]; omega
  ·obtain rfl : q = V.length := by omega
   rw [List.take_of_length_le (by have := hlen.out; omega)] at hE; go_wp2_with fail; go_ret
   exact E.fin (by first | rfl | (rw [hE.out]; rfl))
theorem Qj0 {fill m : Int} (hfill : fill = 1 ∨ fill = 2) : Calls Tryz.prog 43 #[.int .i64 fill, .int .i64 m] w (fun e w' => e = .returned (.bool (Ba fill m)) ∧ Below w.heap.size w w') := by
 rcases hfill with rfl | rfl
 ·by_cases h : Int.tmod m 2 = 0
  ·have hb : (Int.tmod m 2 != 0) = false := by simpa using h
   go_enter Tryz.func43, Tryz.ntmps43; go_wp2_with fail; go_ret; exact E.fin (by simp [Ba, h])
  ·have hb : (Int.tmod m 2 != 0) = true := by simpa using h
   go_enter Tryz.func43, Tryz.ntmps43; go_wp2_with fail; go_ret; exact E.fin (by simp [Ba, h])
 ·by_cases h : m = 0
  ·have hb : (m != 0) = false := by simpa using h
   go_enter Tryz.func43, Tryz.ntmps43; go_wp2_with fail; go_ret; exact E.fin (by simp [Ba, h])
  ·have hb : (m != 0) = true := by simpa using h
   go_enter Tryz.func43, Tryz.ntmps43; go_wp2_with fail; go_ret; exact E.fin (by simp [Ba, h])
end Go.Proofs.YtpnpnlmlamfpmaaGreatDoor
