import Derived.Test.YtpnpnlmlamfpmaaGreatDoorS21
import Derived.LoopIn
import Derived.LoopNIn
import Derived.OwnWalkIn
import Derived.RangeFuncBound
import Derived.RangeFuncCalls
import Derived.RangeFuncFrom
import Derived.RangeFuncLeaves
import Derived.RangeFuncNested
import Derived.RangeFuncWrites
import Derived.Shelf.Abstract
import Derived.Shelf.RegionOpen
import Derived.TacticsInMore
namespace Go.Proofs.YtpnpnlmlamfpmaaGreatDoor
open Go.RowKit
set_option maxHeartbeats 40000000
set_option maxRecDepth 100000
set_option synthInstance.maxHeartbeats 1000000
set_option synthInstance.maxSize 100000
section
variable {c k k1x k1y l n : Nat} {w w0 : World}
theorem Nm {n1x d1x n1y d1y n2x d2x n2y d2y : Int} {p1x p1y p2x p2y : Option Addr} {x1 y1 x2 y2 : Rat} {k2x k2y : Nat} {v : Bool} [h1x : CF w (.agg #[.int .i64 n1x, .int .i64 d1x, .pointer p1x]) x1 k1x] [h1y : CF w (.agg #[.int .i64 n1y, .int .i64 d1y, .pointer p1y]) y1 k1y] [h2x : CF w (.agg #[.int .i64 n2x, .int .i64 d2x, .pointer p2x]) x2 k2x] [h2y : CF w (.agg #[.int .i64 n2y, .int .i64 d2y, .pointer p2y]) y2 k2y] (b : k1x ≤ 20000 ∧ k1y ≤ 20000 ∧ k2x ≤ 20000 ∧ k2y ≤ 20000) (hv : Hid (decide ((x1, y1) = (x2, y2)) = v)) :
  Calls Tryz.prog 78 #[.agg #[.int .i64 n1x, .int .i64 d1x, .pointer p1x, .int .i64 n1y, .int .i64 d1y, .pointer p1y], .agg #[.int .i64 n2x, .int .i64 d2x, .pointer p2x, .int .i64 n2y, .int .i64 d2y, .pointer p2y]] w (fun e w' => e = .returned (.bool v) ∧ Below w.heap.size w w') :=
 (Qcg b).mono fun e w' ⟨h1, h2⟩ => ⟨by rw [h1, ← hv.out]; congr 2; rw [Bool.eq_iff_iff]; simp, h2⟩
def Yu (w : World) (L : List (Rat × Rat)) (p : Rat × Rat) (e : Ending) (w' : World) : Prop := ∃ m : Nat, e = .returned (.int .i64 (m : Int)) ∧ Qy L p m ∧ Below w.heap.size w w'
variable {L : List (Rat × Rat)}
theorem Tb {P : Program} {f : FuncId} {args : Array Value} {p : Rat × Rat} {K : Ending → World → Prop} (h : Calls P f args w (Yu w L p))
  (hK : ∀ w' [Kp1 w w'] (m : Nat), Qy L p m → K (.returned (.int .i64 (m : Int))) w') : Calls P f args w K := by
 refine h.mono ?_
 rintro e w' ⟨m, rfl, hm, hb⟩
 exact @hK w' ⟨hb⟩ m hm
variable {V : List FV} {a : Option Addr} {x y : Rat}
theorem Ve [hs : Sl w (.slice a n c) V.length (Ax V) w0] [hp : PsF w V L k] {nx dx ny dy : Int} {px py : Option Addr} {kx ky : Nat} [hx : CF w (.agg #[.int .i64 nx, .int .i64 dx, .pointer px]) x kx] [hy : CF w (.agg #[.int .i64 ny, .int .i64 dy, .pointer py]) y ky] (b : k ≤ 20000 ∧ kx ≤ 20000 ∧ ky ≤ 20000) (hV : V.length ≤ 1000000) (hin : ∃ j, j < V.length ∧ pg L j = (x, y)) :
  Calls Tryz.prog 76 #[.slice a n c, .agg #[.int .i64 nx, .int .i64 dx, .pointer px, .int .i64 ny, .int .i64 dy, .pointer py]] w (Yu w L (x, y)) := by
 obtain rfl := hs.len; obtain ⟨j0, hj0, hj1⟩ := hin; obtain ⟨g, rfl, hA⟩ := hs.form (by omega); have hlen := Lib.hid hp.len; go_enter Tryz.func76, Tryz.ntmps76; go_wp2_with fail
 go_loopw [9] (fun i wr => ∃ q : Nat, i = .int .i64 (q : Int) ∧ q ≤ V.length ∧ Kp w wr ∧ Bx wr w.heap.size 98 [.int .i64 nx, .int .i64 dx, .pointer px, .int .i64 ny, .int .i64 dy, .pointer py] ∧ ∀ j, j < q → pg L j ≠ (x, y)) (fun i _ => V.length - (intOf i).toNat)
 case atStart => exact ⟨0, rfl, by omega, ii, ii, fun j hj => by omega⟩
 case round =>
  obtain ⟨q, rfl, hq, i1, i2, hno⟩ := hrel; have kw := Kp1.mk i1.out
  have hlt : q < V.length := by
   rcases Nat.lt_or_ge q V.length with h | h
   ·exact h
   ·exact absurd hj1 (hno j0 (by omega))
  have hlt' : (q : Int) < V.length := (by omega); have lq : LtN q V.length := ⟨hlt⟩
  have ew : IntKind.i64.wrap ((q : Int) + 1) = (q : Int) + 1 := Ap (by omega) (by omega)
  by_cases he : pg L q = (x, y)
  ·have hv : Hid (decide (((pg L q).1, (pg L q).2) = (x, y)) = true) := Lib.hid (by rw [show ((pg L q).1, (pg L q).2) = pg L q from rfl, he]; simp)
   go_wp2_with (first
    | (go_at_call 78; refine Aa (Nm (by omega) hv) ?_; intros))
   go_ret
   exact ⟨q, rfl, ⟨by have := hlen.out; omega, he, hno⟩, (ii : Kp w _).out⟩
  ·have hv : Hid (decide (((pg L q).1, (pg L q).2) = (x, y)) = false) := Lib.hid (by rw [show ((pg L q).1, (pg L q).2) = pg L q from rfl]; simpa using he)
   go_wp2_with (first
    | (go_at_call 78; refine Aa (Nm (by omega) hv) ?_; intros))
   go_roundw
   case rel => exact ⟨q + 1, by go_num, by omega, ii, ii, fun j hj => by
    rcases Nat.lt_or_ge j q with h | h
    ·exact hno j h
    ·have : j = q := by omega
     subst this; exact he⟩
   case measure => simp [intOf]; omega
variable {g : Bool} {z : Int}
theorem rlZ (h : CZ w (.agg #[.bool g, .slice a l c]) z k) : RL w (.slice a l c) (nf z.natAbs) := ⟨(Cb h).2.1⟩
theorem Qe0 (h : CZ w (.agg #[.bool g, .slice a l c]) z k) : Ga g (nf z.natAbs) = true := by
 have hg := (Cb h).1
 unfold Ga; rw [Lu, Bool.true_and]
 by_cases hz : z < 0
 ·have : 0 < (nf z.natAbs).length := Bw (by omega)
  simp [this]
 ·rw [hg, decide_eq_false hz]; rfl
theorem Qhy {aa : Option Addr} {ll cc : Nat} (h : CA w (.agg #[.bool g, .slice a l c, .slice aa ll cc]) x k) : RL w (.slice a l c) (nf x.num.natAbs) ∧ RL w (.slice aa ll cc) (nf x.den) ∧ Pw g (nf x.num.natAbs) (nf x.den) = true := by
 have i1 := h.num
 have i2 := h.den
 refine ⟨rlZ i1, ⟨i2.out.1⟩, ?_⟩
 unfold Pw
 have h0 : 0 < (nf x.den).length := Bw x.den_nz
 simp only [Qe0 i1, Lu, Ah, Bool.true_and, Bool.and_eq_true, decide_eq_true_eq]; exact ⟨h0, x.reduced⟩
theorem Qey {g1 : Bool} {a1 : Option Addr} {l1 c1 : Nat} {aa1 : Option Addr} {ll1 cc1 : Nat} {k1 : Nat} [h1 : CA w (.agg #[.bool g1, .slice a1 l1 c1, .slice aa1 ll1 cc1]) x k1] (b : k1 ≤ 80000) :
  Calls Tryz.prog 115 #[.agg #[.bool g1, .slice a1 l1 c1, .slice aa1 ll1 cc1]] w (fun e w' => e = .returned (.bool true) ∧ Below w.heap.size w w') := by
 obtain ⟨i1, i2, i3⟩ := Qhy h1
 have e1 : (nf x.num.natAbs).length ≤ k1 := by have := (Cb h1.num).2.2; exact this
 have e2 : (nf x.den).length ≤ k1 := h1.den.out.2
 exact Qlg (L := nf x.num.natAbs) (LL := nf x.den) ⟨by omega, by omega⟩ (Lib.hid i3)
theorem Qip {g1x g1y : Bool} {a1x aa1x a1y aa1y : Option Addr} {l1x c1x ll1x cc1x l1y c1y ll1y cc1y : Nat} [h1x : CA w (.agg #[.bool g1x, .slice a1x l1x c1x, .slice aa1x ll1x cc1x]) x k1x] [h1y : CA w (.agg #[.bool g1y, .slice a1y l1y c1y, .slice aa1y ll1y cc1y]) y k1y] (b : k1x ≤ 80000 ∧ k1y ≤ 80000) :
  Calls Tryz.prog 74 #[.agg #[.bool g1x, .slice a1x l1x c1x, .slice aa1x ll1x cc1x, .bool g1y, .slice a1y l1y c1y, .slice aa1y ll1y cc1y]] w (fun e w' => e = .returned (.bool true) ∧ Below w.heap.size w w') := by
 go_enter Tryz.func74, Tryz.ntmps74
 go_wp2_with (first
  | (go_at_call 115; refine Aa (Qey (by omega)) ?_; intros))
 go_ret; exact E.fin rfl
theorem Li {q : Nat} (h : q < L.length) : L.take (q + 1) = L.take q ++ [((pg L q).1, (pg L q).2)] := by
 rw [List.take_succ_eq_append_getElem h, Aw h]
theorem Su {V : List AV} [hs : Sl w (.slice a n c) V.length (Af V) w0] [hp : PsQ w V L k] (b : k ≤ 400000) (hV : V.length ≤ 900000) :
  Calls Tryz.prog 23 #[.slice a n c] w (Kl w L (k + 1)) := by
 obtain rfl := hs.len; have hlen := Lib.hid hp.len; go_enter Tryz.func23, Tryz.ntmps23; go_wp2_with fail
 go_loopw [8, 3] (fun i o wr => ∃ (q : Nat) (U : List AV), i = .int .i64 (q : Int) ∧ q ≤ V.length ∧ Rn wr o 70 6 U.length (Af U) w.heap.size wr ∧ Hid (U.length = q) ∧ PsA wr U (L.take q) (k + 1) ∧ Kp w wr) (fun i _ _ => V.length - (intOf i).toNat)
 case atStart => exact ⟨0, [], rfl, by omega, Rn.nil (Nat.le_refl _), Lib.hid rfl, PsA.nil, ii⟩
 case round =>
  obtain ⟨q, U, rfl, hq, i1, hU, i2, i3⟩ := hrel; have kw := Kp1.mk i3.out
  by_cases hlt : q < V.length
  ·obtain ⟨g, rfl, hA⟩ := hs.form (by omega); have hlt' : (q : Int) < V.length := (by omega); have lq : LtN q V.length := ⟨hlt⟩
   have ew : IntKind.i64.wrap ((q : Int) + 1) = (q : Int) + 1 := Ap (by omega) (by omega)
   go_wp2_with (first
    | (go_at_call 19; refine F5 (J6 (by omega)) ?_; intro w1 _ gx ax lx cx aax llx ccx gy ay ly cy aay lly ccy i7 i8)
    | (at_builtin; go_loud (refine Hd (v := u3) rfl (.tmp 12) (.tmp 15) 53 rfl Tryz.underlying53 Zo rfl (by decide) (by decide) (by decide) ii rfl (F4 _) rfl (by rfl) ?h1 ?h2 (by first | omega | (have := hU.out; omega)) ?_); (case h1 => exact AV.one ⟨_, _, _, _, _, _, _, _, _, _, _, _, _, _⟩); (case h2 => exact AV.nd ⟨_, _, _, _, _, _, _, _, _, _, _, _, _, _⟩); intro g2 c2 w2 i9 i10 i11))
   go_roundw
   case rel => exact ⟨q + 1, U ++ [⟨gx, ax, lx, cx, aax, llx, ccx, gy, ay, ly, cy, aay, lly, ccy⟩], by go_num, by omega, Rn.cast2 (ii) (by simp) (by rw [Rq]; rfl), Lib.hid (by rw [List.length_append, hU.out]; rfl), by rw [Li (by have := hlen.out; omega)]; exact PsA.add (by omega) (by omega), ii⟩
   case measure => simp [intOf]; omega
  ·obtain rfl : q = V.length := by omega
   rw [List.take_of_length_le (by have := hlen.out; omega)] at i2; obtain ⟨a3, c3, rfl⟩ := i1.slice; go_wp2_with fail; go_ret; exact Kl.fin (V := U) rfl (by omega)
theorem Qcv [hs : Sl w (.slice a n c) V.length (Ax V) w0] [hp : PsF w V L k] (b : k ≤ 400000) (hV : V.length ≤ 900000) :
  Calls Tryz.prog 38 #[.slice a n c] w (Kl w L (k)) := by
 obtain rfl := hs.len; have hlen := Lib.hid hp.len; go_enter Tryz.func38, Tryz.ntmps38; go_wp2_with fail
 go_loopw [8, 3] (fun i o wr => ∃ (q : Nat) (U : List AV), i = .int .i64 (q : Int) ∧ q ≤ V.length ∧ Rn wr o 70 6 U.length (Af U) w.heap.size wr ∧ Hid (U.length = q) ∧ PsA wr U (L.take q) (k) ∧ Kp w wr) (fun i _ _ => V.length - (intOf i).toNat)
 case atStart => exact ⟨0, [], rfl, by omega, Rn.nil (Nat.le_refl _), Lib.hid rfl, PsA.nil, ii⟩
 case round =>
  obtain ⟨q, U, rfl, hq, i1, hU, i2, i3⟩ := hrel; have kw := Kp1.mk i3.out
  by_cases hlt : q < V.length
  ·obtain ⟨g, rfl, hA⟩ := hs.form (by omega); have hlt' : (q : Int) < V.length := (by omega); have lq : LtN q V.length := ⟨hlt⟩
   have ew : IntKind.i64.wrap ((q : Int) + 1) = (q : Int) + 1 := Ap (by omega) (by omega)
   go_wp2_with (first
    | (go_at_call 54; refine F5 (Ub (by omega)) ?_; intro w1 _ gx ax lx cx aax llx ccx gy ay ly cy aay lly ccy i7 i8)
    | (at_builtin; go_loud (refine Hd (v := u3) rfl (.tmp 12) (.tmp 15) 54 rfl Tryz.underlying54 Zo rfl (by decide) (by decide) (by decide) ii rfl (F4 _) rfl (by rfl) ?h1 ?h2 (by first | omega | (have := hU.out; omega)) ?_); (case h1 => exact AV.one ⟨_, _, _, _, _, _, _, _, _, _, _, _, _, _⟩); (case h2 => exact AV.nd ⟨_, _, _, _, _, _, _, _, _, _, _, _, _, _⟩); intro g2 c2 w2 i9 i10 i11))
   go_roundw
   case rel => exact ⟨q + 1, U ++ [⟨gx, ax, lx, cx, aax, llx, ccx, gy, ay, ly, cy, aay, lly, ccy⟩], by go_num, by omega, Rn.cast2 (ii) (by simp) (by rw [Rq]; rfl), Lib.hid (by rw [List.length_append, hU.out]; rfl), by rw [Li (by have := hlen.out; omega)]; exact PsA.add (by omega) (by omega), ii⟩
   case measure => simp [intOf]; omega
  ·obtain rfl : q = V.length := by omega
   rw [List.take_of_length_le (by have := hlen.out; omega)] at i2; obtain ⟨a3, c3, rfl⟩ := i1.slice; go_wp2_with fail; go_ret; exact Kl.fin (V := U) rfl (by omega)
end
section
open Go.Shelf
attribute [local go_sem] Oper.semAt_some
variable {P : Program} {Q : Exit → Act → World → Prop} {c n : Nat}
theorem nmreg {F : Fence} {id : Nat} {ops : Array Oper} {a : Act} {W : World} (R : World → Prop) (h : R W) (k : ∀ W1, R W1 → (Code.region id ops true).wpIn F n P Q a W1) : (Code.region id ops true).wpIn F n P Q a W := k W h
def edL (V : List FV) (i : Nat) : List Value := [.int .i64 (fv V i).nx, .int .i64 (fv V i).dx, .pointer (fv V i).px, .int .i64 (fv V i).ny, .int .i64 (fv V i).dy, .pointer (fv V i).py,
 .int .i64 (fv V ((i + 1) % V.length)).nx, .int .i64 (fv V ((i + 1) % V.length)).dx, .pointer (fv V ((i + 1) % V.length)).px, .int .i64 (fv V ((i + 1) % V.length)).ny, .int .i64 (fv V ((i + 1) % V.length)).dy, .pointer (fv V ((i + 1) % V.length)).py]
def Fb (V : List FV) (i : Fin V.length) : Array Value := #[.int .i64 ((i.val : Nat) : Int), .agg (edL V i.val).toArray]
theorem H7 {q : Nat} (h : q < n) : (List.finRange n).take (q + 1) = (List.finRange n).take q ++ [⟨q, h⟩] := by
 rw [List.take_succ_eq_append_getElem (by simpa using h)]; simp
variable {w w0 : World}
theorem Qdr (n : Nat) (hn : 1 ≤ n) (l Br n₀ g c : Nat) (V : List FV) (hV : V.length ≤ 1000000) (hg : g < n₀) (hBr : Br < n₀) (J Jx : List (Fin V.length) → World → Prop) (W : World) (hn₀ : n₀ ≤ W.heap.size) (hJ : AbidesFrom W.heap.size J)
  (hY : ∀ pre x W1, J pre W1 → pre.length < V.length → YieldAt Fence.wide (n - 1) Tryz.prog l (Fb V x) W1 fun e W' =>
   (e = .returned (.bool true) ∧ J (pre ++ [x]) W' ∧ Below n₀ W1 W') ∨ (e = .returned (.bool false) ∧ Jx (pre ++ [x]) W'))
  [hB : Bx W Br 91 [.slice (some ⟨g, 0, none⟩) V.length c]] [hA : At W g (Ax V) w0] (h0 : J [] W) :
  CallsIn Fence.wide n Tryz.prog 117 #[.func (.yield l) #[] #[], .pointer (some ⟨Br, 0, none⟩)] W fun e W' => (∃ v, e = .returned v) ∧
   ((∃ ys, ys = List.finRange V.length ∧ J ys W') ∨ (∃ pre, pre <+: List.finRange V.length ∧ Jx pre W')) := by
 have hmx : Tryz.prog.follows .mixedOrders = true := by kernel_rfl
 refine callsIn_of_wp Tryz.func117 rfl trivial ?_ rfl
 simp only [Tryz.ntmps117, List.size_toArray, List.length_cons, List.length_nil, Nat.reduceAdd, Nat.reduceSub, Array.replicate_succ, Array.replicate_zero, List.push_toArray, List.append_toArray, List.nil_append, List.cons_append]
 gi_wp2
 gi_loopw [7] (fun i wr => ∃ q : Nat, q ≤ V.length ∧ i = .int .i64 (q : Int) ∧ J ((List.finRange V.length).take q) wr ∧ Below n₀ W wr) (fun i _ => V.length - (intOf i).toNat)
 case atStart => exact ⟨0, Nat.zero_le _, rfl, by simpa using h0, Below.refl _ _⟩
 case round =>
  obtain ⟨q, hq, rfl, hJs, hnx⟩ := hrel
  by_cases hlt : q < V.length
  ·have hlt' : (q : Int) < V.length := by omega
   have i1 : Bx wr Br 91 [.slice (some ⟨g, 0, none⟩) V.length c] := ⟨(hnx.block Br hBr).trans hB.out⟩
   have i2 : At wr g (Ax V) wr := ⟨fun j u hu => (hnx.cell (p := ⟨g, j, none⟩) hg).trans (hA.out j u hu), Nat.lt_of_lt_of_le (Nat.lt_of_lt_of_le hg hn₀) hnx.size, Nat.lt_of_lt_of_le (Nat.lt_of_lt_of_le hg hn₀) hnx.size⟩
   have ew : IntKind.i64.wrap ((q : Int) + 1) = (q : Int) + 1 := Ap (by omega) (by omega)
   obtain ⟨m, hm0⟩ : ∃ m, (q + 1) % V.length = m := ⟨_, rfl⟩
   have hm : m < V.length := by rw [← hm0]; exact Nat.mod_lt _ (by omega)
   have hm' : (m : Int) < V.length := (by omega)
   have er : ((q : Int) + 1).tmod (V.length : Int) = (m : Int) := by
    rw [← hm0, show (q : Int) + 1 = ((q + 1 : Nat) : Int) by omega]; exact (Int.ofNat_tmod _ _).symm
   have HM := Lib.hid hm0; clear hm0; have hz : ¬ ((V.length : Int) = 0) := (by omega); have hz2 : ¬ (V.length = 0) := (by omega)
   have hz3 : V ≠ [] := fun e => by rw [e] at hlt; simp at hlt
   gi_wp2
   refine nmreg (fun W4 => Kp wr W4 ∧ Bx W4 wr.heap.size 98 (fv V q).l ∧ Bx W4 Br 91 [.slice (some ⟨g, 0, none⟩) V.length c] ∧ At W4 g (Ax V) wr) ⟨ii, Bx.re rfl, ii, ii⟩ ?_
   intro W4 ⟨k1, k2, k3, k4⟩
   have hJ4 := hJ _ _ W4.drew none hJs (Fu (ii : Kp wr W4.drew).out) (fun r e => by cases e)
   obtain ⟨fn, tmps, assign, body, hy, hR⟩ := hY _ ⟨q, hlt⟩ _ hJ4 (by simp; omega)
   have hR' := hR.mono (R' := fun e W' => ∃ b : Bool, e = .returned (.bool b) ∧ (b = true → J ((List.finRange V.length).take (q + 1)) W' ∧ Below n₀ W4.drew W') ∧ (b = false → Jx ((List.finRange V.length).take (q + 1)) W')) (by
    rintro e W' (⟨h1, h2, h3⟩ | ⟨h1, h2⟩)
    ·exact ⟨true, h1, fun _ => ⟨(by rw [H7 hlt]; exact h2), h3⟩, fun h => (by cases h)⟩
    ·exact ⟨false, h1, fun h => (by cases h), fun _ => (by rw [H7 hlt]; exact h2)⟩)
   clear hR
   dsimp only [Fb, edL] at hy
   rw [HM.out] at hy; simp only [FV.l] at k2; clear hY hJ
   gi_region_with_o (refine hR'.mono ?_; rintro e W5 ⟨b, rfl, hb1, hb2⟩)
   all_goals
    cases b with
    | true =>
     obtain ⟨hJ5, hk5⟩ := hb1 rfl
     have hk6 : Below n₀ wr W5 := ((ii : Kp wr W4.drew).out.mono (Nat.le_trans hn₀ hnx.size)).trans hk5
     gi_wp2
     go_roundw
     case rel => exact ⟨q + 1, by omega, by go_num, hJ5, hnx.trans hk6⟩
     case measure => simp [intOf]; omega
    | false =>
     have hx5 := hb2 rfl
     gi_wp2
     refine bodyPost_ret (results_none rfl _ _ _) rfl ?_
     exact ⟨⟨_, rfl⟩, .inr ⟨_, List.take_prefix _ _, hx5⟩⟩
  ·obtain rfl : q = V.length := by omega
   gi_wp2
   go_end0
   exact ⟨⟨_, rfl⟩, .inl ⟨_, rfl, by rw [List.take_of_length_le (by simp)] at hJs; exact hJs⟩⟩
theorem Sh {a : Option Addr} : Calls Tryz.prog 77 #[.slice a n c] w fun e w' => e = .returned (.func (.func 117) #[] #[.pointer (some ⟨w.heap.size, 0, none⟩)]) ∧ w' = w.alloc (.cells #[.slice a n c] 91) := by
 go_enter Tryz.func77, Tryz.ntmps77; go_wp2; go_ret; exact ⟨rfl, rfl⟩
theorem Od {f : FuncId} {args : Array Value} {fe : Nat} {t : TypeId} {v : Value} {K : Ending → World → Prop} (h : Calls P f args w fun e w' => e = .returned (.func (.func fe) #[] #[.pointer (some ⟨w.heap.size, 0, none⟩)]) ∧ w' = w.alloc (.cells #[v] t))
  (hK : ∀ w' [Kp1 w w'] (b : Nat) [Bx w' b t [v]], K (.returned (.func (.func fe) #[] #[.pointer (some ⟨b, 0, none⟩)])) w') : Calls P f args w K := by
 refine h.mono ?_
 rintro e w' ⟨rfl, rfl⟩
 exact @hK _ ⟨Bh _ _⟩ _ (ii : Bx (w.alloc (.cells [v].toArray t (0, 0))) w.heap.size t [v])
theorem Qgz (n : Nat) (hn : 1 ≤ n) (Br g c : Nat) (V : List FV) (hV : V.length ≤ 1000000) (w : World) [hB : Bx w Br 91 [.slice (some ⟨g, 0, none⟩) V.length c]] [hA : At w g (Ax V) w0] :
  SeqStopsK Fence.wide n Tryz.prog 117 #[.pointer (some ⟨Br, 0, none⟩)] (Fb V) (Below w.heap.size) (fun ys => ys = List.finRange V.length) (fun pre => pre <+: List.finRange V.length) V.length w := fun l J Jx W hW hJ _ hY h0 => by
 have kW : Kp1 w W := ⟨hW⟩
 exact Qdr n hn l Br w.heap.size g c V hV hA.ltW hB.lt J Jx W hW.size hJ hY h0
theorem Qfq {go_ : Operand} {ps : Array Tmp} {assign body : Code} {Ts : Array Value} {Br g : Nat} {V : List FV} (hn : 3 ≤ n) (hg : Act.eval { tmps := Ts, defers := [] } go_ = .func (.func 117) #[] #[.pointer (some ⟨Br, 0, none⟩)]) (hV : V.length ≤ 1000000)
  [hB : Bx w Br 91 [.slice (some ⟨g, 0, none⟩) V.length c]] [hA : At w g (Ax V) w0] (hps : ps.size = 2) (upd : Array Value → Fin V.length → Nat → Array Value)
  (I : List (Fin V.length) → World → Prop) (Ix : Code → List (Fin V.length) → World → Prop) (hI : OwnFrom w.heap.size I) (hIx : ∀ c, OwnFrom w.heap.size (Ix c)) (h0 : I [] w)
  (hassign : ∀ (l : Nat) (pre : List (Fin V.length)) (x : Fin V.length) (W : World) (K : Act → World → Prop), I pre W → (∀ W' b, W.heap.size = b → Kp W W' → Bx W' b 158 (edL V x.val) → K { tmps := upd Ts x b, defers := [] } W') →
   assign.wpIn (Fence.wide.inRound l) (n - 1 - 1) Tryz.prog (Exit.then K (fun _ _ _ => False)) { tmps := (ps.zip (Fb V x)).foldl (fun t (p, v) => t.setIfInBounds p v) Ts, defers := [] } W)
  (hIb : ∀ pre W W', I pre W → Kp W W' → I pre W') (hIs : ∀ pre W, I pre W → w.heap.size ≤ W.heap.size)
  (hbody : ∀ (l : Nat) (pre : List (Fin V.length)) (x : Fin V.length) (b : Nat) (W : World), I pre W → w.heap.size ≤ b → Bx W b 158 (edL V x.val) → pre.length < V.length → body.wpIn (Fence.wide.inRound l) (n - 1 - 1) Tryz.prog (ownPostG w.heap.size (Below w.heap.size) I Ix (pre ++ [x]) W) { tmps := upd Ts x b, defers := [] } W)
  (hdone : ∀ (D : Nat) (W : World), w.heap.size ≤ D → I (List.finRange V.length) W → W.heap[D]? = some (.deferred (some [])) → Q .normal { tmps := Ts, defers := [{ target := .collected D, args := #[] }] } W)
  (hstop : ∀ (D : Nat) (c : Code) (pre : List (Fin V.length)) (W : World), w.heap.size ≤ D → pre <+: List.finRange V.length → Ix c pre W → W.heap[D]? = some (.deferred (some [])) → c.wpIn Fence.wide n Tryz.prog Q { tmps := Ts, defers := [{ target := .collected D, args := #[] }] } W) :
  (Code.rangeFunc go_ ps assign body).wp Tryz.prog Q { tmps := Ts, defers := [] } w := by
 refine (wpIn_wide (n := n)).1 ?_
 refine wpIn_rangeFunc_ownH rfl (by omega) hg trivial (enters_of Tryz.func117 (by kernel_rfl) rfl) (Qgz (n - 1) (by omega) Br g c V hV w (w0 := w0)) belowK_t (belowK_b (Nat.le_refl _)) (Below.refl _ _) (fun _ => by rw [hps]; rfl)
  I Ix hI hIx h0 (fun x a' W => ∃ b, w.heap.size ≤ b ∧ Bx W b 158 (edL V x.val) ∧ a' = { tmps := upd Ts x b, defers := [] }) ?_ ?_ ?_ ?_ ?_
 ·intro x a' s A B row ⟨b, h1, h2, h3⟩ hgr hr
  refine ⟨b, h1, ⟨?_⟩, h3⟩
  rw [hgr.block b h2.lt (fun e => ?_)]
  ·exact h2.out
  ·obtain ⟨_, o, ho, hc⟩ := hr b e.symm; rw [h2.out] at ho
   cases ho
   cases hc
 ·intro l pre x W K hi hK
  refine hassign l pre x W K hi (fun W' b hb hk hx => ?_)
  have hs := hIs _ _ hi
  exact hK _ _ ((KeepsOthers.of_grownBy (row := none) (Fu hk.out) (fun j o e => by cases e)).from _) (hk.out.mono hs) (hIb _ _ _ hi hk) ⟨b, by omega, hx, rfl⟩
 ·rintro l pre x a' W _ _ hi ⟨b, h1, h2, rfl⟩ hlt
  exact hbody l pre x b W hi h1 h2 hlt
 ·rintro D xs W hD rfl hi hK
  exact hdone D W hD hi hK
 ·exact hstop
end
end Go.Proofs.YtpnpnlmlamfpmaaGreatDoor
