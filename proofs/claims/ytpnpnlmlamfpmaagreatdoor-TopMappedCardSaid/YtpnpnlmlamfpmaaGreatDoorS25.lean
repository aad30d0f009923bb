import Derived.Test.YtpnpnlmlamfpmaaGreatDoorS23
import Derived.Test.YtpnpnlmlamfpmaaGreatDoorS24
namespace Go.Proofs.YtpnpnlmlamfpmaaGreatDoor
open Go.RowKit
set_option linter.unusedSimpArgs false
set_option linter.unusedVariables false
set_option maxRecDepth 100000
section
set_option maxHeartbeats 40000000
set_option synthInstance.maxHeartbeats 1000000
set_option synthInstance.maxSize 100000
attribute [local go_sem] Oper.semAt_some
variable {P : Program} {R : Ending → World → Prop} {W w : World} {args : Array Value} {f : FuncId} {fn : Func}
theorem Pe {c : Code} (hf : P.funcs[f]? = some fn) (hb : fn.body = some c)
  (h : c.wp P (bodyPostM Fence.wide 5 P fn R) { tmps := args ++ Array.replicate (fn.ntmps - args.size) undef, defers := [] } w) : Calls P f args w R :=
 (callsIn_wide (n := 5)).1 (callsIn_of_wp_marks hf hb trivial ((wpIn_wide (n := 5)).2 h) rfl)
theorem Rb {a : Act} {D : Nat} (hd : a.defers = [{ target := .collected D, args := #[] }]) (hK : w.heap[D]? = some (.deferred (some [])))
  (h : bodyPost P fn R .ret { a with defers := [] } (w.putObj D (.deferred none))) : bodyPostM Fence.wide 5 P fn R .ret a w := by
 obtain ⟨_, v, h2, h3⟩ := h
 show LeavesInM _ _ _ _ _ _ a.defers .returning w
 rw [hd]
 exact ⟨by simp, .inl ⟨_, _, rfl, run_takeDeferred hK, v, h2, h3⟩⟩
theorem inR {l n : Nat} {K : Ending → World → Prop} (h : Calls P f args W K) : CallsIn (Fence.wide.inRound l) n P f args W K := CallsIn.inRound l (callsIn_wide.2 h)
theorem Qev {B : Nat} {W' : World} (h : Kp W W') : KeepsFrom B W W' := (KeepsOthers.of_grownBy (row := none) (Fu h.out) (fun j o e => by cases e)).from _
class Dp1 (W : outParam World) (W2 : World) (D : outParam Nat) : Prop where
 eq : W2 = W.putObj D (.deferred none)
 was : ∃ x, W.heap[D]? = some (.deferred x)
section
variable {W W2 w0 w : World} {D : Nat}
theorem Dp1.size (k : Dp1 W W2 D) : W2.heap.size = W.heap.size := by rw [k.eq]; simp [World.putObj]
theorem Dp1.block (k : Dp1 W W2 D) {b : Nat} (h : b ≠ D) : W2.heap[b]? = W.heap[b]? := by
 rw [k.eq]; simp only [World.putObj, Array.getElem?_setIfInBounds]; rw [if_neg (fun e => h e.symm)]
theorem Dp1.cells (k : Dp1 W W2 D) {b : Nat} {l : Array Value} {t : TypeId} {z : Nat × Nat} (h : W.heap[b]? = some (.cells l t z)) : W2.heap[b]? = some (.cells l t z) := by
 obtain ⟨x, hx⟩ := k.was; rw [k.block (fun e => by rw [e, hx] at h; cases h)]; exact h
theorem Dp1.cell (k : Dp1 W W2 D) {a : Addr} {v : Value} (h : W.cell? a = some v) : W2.cell? a = some v := by
 obtain ⟨x, hx⟩ := k.was
 have hb : W2.heap[a.block]? = W.heap[a.block]? := k.block (fun e => by
  unfold World.cell? at h
  rw [e, hx] at h
  simp at h)
 unfold World.cell? at h ⊢
 rw [hb]; exact h
theorem Rd.dp {v : Value} {l : List Nat} (h : Rd W v l) (k : Dp1 W W2 D) : Rd W2 v l := by
 obtain ⟨a, cap, rfl, h1, h2, h3, h4⟩ := h
 refine ⟨a, cap, rfl, h1, h2, h3, fun h0 => ?_⟩
 obtain ⟨b, off, rfl, hcell⟩ := h4 h0
 exact ⟨b, off, rfl, fun j hj => k.cell (hcell j hj)⟩
theorem Pres.dp (k : Dp1 W W2 D) : Pres W W2 := ⟨fun h => ⟨h.1.dp k, h.2⟩, fun h => by obtain ⟨l, h1, h2⟩ := h; exact ⟨l, h1.dp k, h2⟩, fun {b l} y => k.cells y⟩
instance (priority := low) CF.dp {v : Value} {q : Rat} {k : Nat} [b : Dp1 W W2 D] [h : CF W v q k] : CF W2 v q k := ⟨h.out.map (Pres.dp b)⟩
instance (priority := low) Bx.dp {b : Nat} {t : TypeId} {l : List Value} [k : Dp1 W W2 D] [h : Bx W b t l] : Bx W2 b t l := ⟨k.cells h.out⟩
instance (priority := low) Sl.dp {v : Value} {n : Nat} {xs : List Value} [k : Dp1 W W2 D] [h : Sl W v n xs w0] : Sl W2 v n xs w0 := by
 refine ⟨?_, h.lt, by rw [k.size]; exact h.ltW⟩
 rcases h.out with e | ⟨g, c, e, hn, hc⟩
 ·exact .inl e
 ·exact .inr ⟨g, c, e, hn, fun j u hu => k.cell (hc j u hu)⟩
instance (priority := low) Kp.dp [k : Dp1 W W2 D] [h : Kp w W] [n : Ge w D] : Kp w W2 := ⟨h.out.trans (by
 obtain ⟨x, hx⟩ := k.was; rw [k.eq]
 exact ⟨rfl, rfl, rfl, by simp [World.putObj], fun i hi => by
  simp only [World.putObj, Array.getElem?_setIfInBounds]
  rw [if_neg (by have := n.out; omega)]⟩)⟩
instance PsF.dp {V : List FV} {L : List (Rat × Rat)} {k : Nat} [b : Dp1 W W2 D] [h : PsF W V L k] : PsF W2 V L k := ⟨h.len, fun i hi => by have := h.x i hi; exact ii, fun i hi => by have := h.y i hi; exact ii⟩
end
instance : BoxT 91 := by constructor <;> decide
instance : BoxT 158 := by constructor <;> decide
variable {W : World}
theorem Fm {q i D : Nat} {x : Value} {y : Option (List Deferred)} (h : W.heap[D]? = some (.deferred y)) (hn : q ≠ D) : (W.setCell ⟨q, i, none⟩ x).heap[D]? = some (.deferred y) := by
 simp only [World.setCell, Array.getElem?_modify]
 rw [if_neg hn]; exact h
variable {P : Program} {d : TypeDesc} {ty ty2 : TypeId}
theorem Y9 {b : Nat} {t : TypeId} {v : Value} {l : List Value} [h : Bx W b t (v :: l)] (hu : P.underlying ty = some d) (hd : (match d with | .struct _ | .array _ _ => true | _ => false) = false) : (loadVar ty ⟨b, 0, none⟩).run P W = .ok v W := by
 have hagg : (isAgg ty).run P W = .ok false W := by
  unfold isAgg; rw [Sem.run_bind, run_underlying hu W]
  cases d <;> simp_all
 have hc : W.cell? ⟨b, 0, none⟩ = some v := by rw [B8]; rfl
 simp [loadVar, hagg, hc]
variable {R : Ending → World → Prop} {a : Act} {b1 b2 : Nat} {fn : Func} {p q : Tmp} {v1 v2 : Value}
theorem Qf0 (hr : fn.results = #[.cell p ty, .cell q ty2])
  (hp : a.tmps.getD p undef = .pointer (some ⟨b1, 0, none⟩)) (hq : a.tmps.getD q undef = .pointer (some ⟨b2, 0, none⟩)) (h1 : (loadVar ty ⟨b1, 0, none⟩).run P W = .ok v1 W) (h2 : (loadVar ty2 ⟨b2, 0, none⟩).run P W = .ok v2 W)
  (hdf : a.defers = []) (hR : R (.returned (.tuple #[v1, v2])) W) : bodyPost P fn R .ret a W := by
 refine ⟨hdf, _, ?_, hR⟩
 have hp' : a.tmps[p]?.getD undef = .pointer (some ⟨b1, 0, none⟩) := by simpa using hp
 have hq' : a.tmps[q]?.getD undef = .pointer (some ⟨b2, 0, none⟩) := by simpa using hq
 simp [results, hr, hp', hq', asAddr, h1, h2]
theorem Qkl {t1 t2 : TypeId} {d2 : TypeDesc} [i1 : Bx W b1 t1 [v1]] [i2 : Bx W b2 t2 [v2]] (hr : fn.results = #[.cell p ty, .cell q ty2])
  (hu : P.underlying ty = some d) (hd : (match d with | .struct _ | .array _ _ => true | _ => false) = false) (hu2 : P.underlying ty2 = some d2) (hd2 : (match d2 with | .struct _ | .array _ _ => true | _ => false) = false)
  (hp : a.tmps.getD p undef = .pointer (some ⟨b1, 0, none⟩)) (hq : a.tmps.getD q undef = .pointer (some ⟨b2, 0, none⟩)) (hdf : a.defers = []) (hR : R (.returned (.tuple #[v1, v2])) W) : bodyPost P fn R .ret a W :=
 Qf0 hr hp hq (Y9 hu hd) (Y9 hu2 hd2) hdf hR
theorem Xg {w w0 : World} {a : Option Addr} {n c : Nat} {V : List AV} {L : List (Rat × Rat)} {k : Nat} [hs : Sl w (.slice a n c) V.length (Af V) w0] [hp : PsA w V L k] (b : k ≤ 19000) (hV : V.length ≤ 4096) (hR : RingOK L) :
  Calls Tryz.prog 35 #[.slice a n c] w (Qj w L (k + 2)) := by
 obtain rfl := hs.len; have hlen := Lib.hid hp.len
 have hpos : 0 < V.length := by rw [hlen.out]; exact hR.pos
 have HR := Lib.hid hR; clear hR; obtain ⟨g, rfl, hA⟩ := hs.form hpos; have hno : ¬ (4096 < (V.length : Int)) := (by omega)
 refine Pe Tryz.func35 rfl ?_
 simp only [Tryz.ntmps35, List.size_toArray, List.length_cons, List.length_nil, Nat.reduceAdd, Nat.reduceSub, Array.replicate_succ, Array.replicate_zero, List.push_toArray, List.append_toArray, List.nil_append, List.cons_append]; go_wp2_with fail
 go_loopw [21, 4] (fun i o wr => ∃ (q : Nat) (U : List FV), i = .int .i64 (q : Int) ∧ q ≤ V.length ∧ Rn wr o 98 6 U.length (Ax U) (w.heap.size + 1 + 1) wr ∧ Hid (U.length = q) ∧ PsF wr U (L.take q) (k + 2) ∧ Bx wr w.heap.size 91 [.slice none 0 0] ∧ Bx wr (w.heap.size + 1) 56 [.nilIface] ∧ Kp w wr) (fun i _ _ => V.length - (intOf i).toNat)
 case atStart => exact ⟨0, [], rfl, by omega, Rn.nil (by simp), Lib.hid rfl, PsF.nil, ii, ii, ii⟩
 case round =>
  obtain ⟨q, U, rfl, hq, i1, hU, i2, i3, i4, i5⟩ := hrel; have kw := Kp1.mk i5.out
  by_cases hlt : q < V.length
  ·have hlt' : (q : Int) < V.length := by omega
   have lq : LtN q V.length := ⟨hlt⟩
   have ew : IntKind.i64.wrap ((q : Int) + 1) = (q : Int) + 1 := Ap (by omega) (by omega)
   go_wp2_with (first
    | (go_at_call 74; refine Aa (Qip (by omega)) ?_; intros)
    | (go_at_call 51; refine Au (K5 (by omega)) ?_; intro w1 _ nx dx px ny dy py i7 i8)
    | (at_builtin; go_loud (refine Hd (v := u4) rfl (.tmp 37) (.tmp 40) 91 rfl Tryz.underlying91 Rz rfl (by decide) (by decide) (by decide) ii rfl (Sg _) rfl (by rfl) ?h1 ?h2 (by first | omega | (have := hU.out; omega)) ?_); (case h1 => exact FV.one ⟨_, _, _, _, _, _⟩); (case h2 => exact FV.nd ⟨_, _, _, _, _, _⟩); intro g2 c2 w2 i9 i10 i11))
   go_roundw
   case rel => exact ⟨q + 1, U ++ [⟨nx, dx, px, ny, dy, py⟩], by go_num, by omega, Rn.cast2 (ii) (by simp) (by rw [Pb]; rfl), Lib.hid (by rw [List.length_append, hU.out]; rfl), by rw [Li (by have := hlen.out; omega)]; exact PsF.add (by first | omega | simp) (by first | omega | simp), ii, ii, ii⟩
   case measure => simp [intOf]; omega
  ·obtain rfl : q = V.length := by omega
   rw [List.take_of_length_le (by have := hlen.out; omega)] at i2
   have hUl : Hid (U.length = L.length) := Lib.hid (hU.out.trans hlen.out)
   have hU4 : U.length ≤ 4096 := by rw [hU.out]; exact hV
   have hU0 : 0 < U.length := by rw [hU.out]; exact hpos
   clear hU hs hq hlt hA; obtain ⟨a3, c3, rfl⟩ := i1.slice; obtain ⟨g2, rfl, hA2⟩ := (Sl.ofRn (h := i1)).form hU0; go_wp2_with fail
   go_loopw [45, 7] (fun i d wx => ∃ (q m : Nat), i = .int .i64 (q : Int) ∧ q ≤ U.length ∧ d = .int .i64 (m : Int) ∧ Hid (min 3 (dsc L q) = m) ∧ Kp wr wx) (fun i _ _ => U.length - (intOf i).toNat)
   case atStart => exact ⟨0, 0, rfl, by omega, rfl, Lib.hid rfl, ii⟩
   case round =>
    obtain ⟨q, m, rfl, hq, rfl, hm, j1⟩ := hrel; have kx := Kp1.mk j1.out
    have hm3 : m ≤ 3 := by rw [← hm.out]; omega
    by_cases hlt : q < U.length
    ·have hlt' : (q : Int) < U.length := by omega
     have lq : LtN q U.length := ⟨hlt⟩
     have ew : IntKind.i64.wrap ((q : Int) + 1) = (q : Int) + 1 := Ap (by omega) (by omega)
     have em : IntKind.i64.wrap ((m : Int) + 1) = (m : Int) + 1 := Ap (by omega) (by omega)
     by_cases h3 : m < 3
     ·have h3' : (m : Int) < 3 := by omega
      by_cases hn : pg L q ∈ L.take q
      ·go_wp2_with (first
        | (go_at_call 76; go_loud (refine Tb (Ve (V := U) (by omega) (by omega) ⟨q, hlt, rfl⟩) ?_; intro w1 _ m1 hm1); have hne : ¬ ((m1 : Int) = (q : Int)) := fun e => (Qy.new (by rw [← hUl.out]; exact hlt) hm1).1 (by omega) hn; have hne2 : ((m1 : Int) == (q : Int)) = false := beq_false_of_ne hne; clear hm1))
       go_roundw
       case rel => exact ⟨q + 1, m, by go_num, by omega, rfl, Lib.hid (by have h2 := hm.out; simp only [dsc, if_pos hn]; omega), ii⟩
       case measure => simp [intOf]; omega
      ·go_wp2_with (first
        | (go_at_call 76; refine Tb (Ve (V := U) (by omega) (by omega) ⟨q, hlt, rfl⟩) ?_; intro w1 _ m1 hm1; obtain rfl : m1 = q := (Qy.new (by rw [← hUl.out]; exact hlt) hm1).2 hn; clear hm1))
       go_roundw
       case rel => exact ⟨m1 + 1, m + 1, by go_num, by omega, by go_num, Lib.hid (by have h2 := hm.out; simp only [dsc, if_neg hn]; omega), ii⟩
       case measure => simp [intOf]; omega
     ·obtain rfl : m = 3 := by omega
      go_wp2_with fail
      go_roundw
      case rel => exact ⟨q + 1, 3, by go_num, by omega, rfl, Lib.hid (by have h2 := hm.out; have := Y1 L (show q ≤ q + 1 by omega); omega), ii⟩
      case measure => simp [intOf]; omega
    ·obtain rfl : q = U.length := by omega
     have h3 : m = 3 := by have := HR.out.three; rw [← hUl.out] at this; have := hm.out; omega
     subst h3
     go_wp2_with (first
      | (go_at_call 77; refine Od Sh ?_; intro w1 _ br _))
     refine Qfq (n := 5) (by omega) rfl (by omega) (V := U) (Br := br) (g := g2) (c := c3) rfl (fun T x b => (((T.setIfInBounds 70 (.int .i64 (x.val : Int))).setIfInBounds 71 (.agg (edL U x.val).toArray)).setIfInBounds 10 (.int .i64 (x.val : Int))).setIfInBounds 11 (.pointer (some ⟨b, 0, none⟩)))
      (fun _ W => Below w1.heap.size w1 W) (fun _ _ _ => False) (ownFrom_below (Nat.le_refl _) (Nat.le_refl _)) (fun _ _ _ _ _ h _ _ => h.elim) (Below.refl _ _) ?assign (fun _ _ _ h k => Ar h k.out) (fun _ _ h => h.size) ?body ?done ?stop
     case assign =>
      intro l pre x W K hI hK; simp only [Fb, edL, List.zip_toArray, List.zip_cons_cons, List.zip_nil_right, List.foldl_toArray, List.foldl_cons, List.foldl_nil, List.setIfInBounds_toArray, List.set_cons_zero, List.set_cons_succ]; simp only [edL, List.setIfInBounds_toArray, List.set_cons_zero, List.set_cons_succ] at hK
      gi_wp2
      refine hK _ _ rfl ?_ ?_
      ·exact ii
      ·exact Bx.re rfl
     case body =>
      intro l pre x b W hI hb hx hlt9; have kw1 := Kp1.mk hI; obtain ⟨m, hm0⟩ : ∃ m, (x.val + 1) % U.length = m := ⟨_, rfl⟩; have lq : LtN x.val U.length := ⟨x.isLt⟩
      have lm : LtN m U.length := ⟨by rw [← hm0]; exact Nat.mod_lt _ (by omega)⟩
      have hv : Hid (decide (((pg L x.val).1, (pg L x.val).2) = ((pg L m).1, (pg L m).2)) = false) := Lib.hid (by
       have := HR.out.edge x.val (by rw [← hUl.out]; exact x.isLt)
       rw [← hUl.out, hm0] at this
       exact decide_eq_false (show ¬ _ from this))
      dsimp only [edL] at hx ⊢
      rw [hm0] at hx ⊢; simp only [List.setIfInBounds_toArray, List.set_cons_zero, List.set_cons_succ]
      gi_wp2_with (first
       | (refine ⟨trivial, ?_⟩; gi_at_call 78; (refine inR ?_); refine Aa (Nm (by omega) hv) ?_; intros))
      exact ⟨Qev ii, (ii : Kp W _).out.mono hI.size, Ar hI (ii : Kp W _).out⟩
     case done =>
      intro D W hD hI hK; have kw1 := Kp1.mk hI
      have gd : Ge w D := ⟨Nat.le_trans (ii : Kp w w1).out.size hD⟩
      have g0 : w.heap.size + 1 < D := Nat.lt_of_lt_of_le (i4.lt) (Nat.le_trans (Nat.le_trans j1.out.size (ii : Kp wr w1).out.size) hD)
      go_wp2
      refine Rb (D := D) rfl (Fm (Fm hK (by omega)) (by omega)) ?_
      have kd : Dp1 ((W.setCell ⟨w.heap.size, 0, none⟩ (.slice (some ⟨g2, 0, none⟩) U.length c3)).setCell ⟨w.heap.size + 1, 0, none⟩ .nilIface) _ D := ⟨rfl, _, Fm (Fm hK (by omega)) (by omega)⟩
      refine Qkl rfl Tryz.underlying91 rfl Tryz.underlying56 rfl rfl rfl rfl ?_
      exact Qj.fin (V := U) rfl (Nat.le_refl _)
     case stop => exact fun _ _ _ _ _ _ h _ => h.elim
end
section
set_option maxHeartbeats 40000000
set_option synthInstance.maxHeartbeats 1000000
set_option synthInstance.maxSize 100000
attribute [local go_sem] Oper.semAt_some
theorem Qp {w : World} {n1 d1 : Int} {p1 : Option Addr} {x : Rat} {k1 : Nat} [h1 : CF w (.agg #[.int .i64 n1, .int .i64 d1, .pointer p1]) x k1] (b : k1 ≤ 250000) :
  Calls Tryz.prog 112 #[.agg #[.int .i64 n1, .int .i64 d1, .pointer p1]] w (Bk w (x / 2) (k1 + 4)) := by
 have ih : ∀ W, CF W (.agg #[.int .i64 1, .int .i64 1, .pointer none]) (mkRat 1 2) 2 := fun W => CF.small (by decide +kernel) (by decide +kernel) (by omega) (by omega) (by omega) (by omega)
 have ix := ih w
 go_enter Tryz.func112, Tryz.ntmps112
 go_wp2_with (first
  | (go_at_call 161; refine Ab (B4 (by omega)) ?_; intros))
 refine Ac rfl Tryz.underlying96 rfl (by kernel_rfl) rfl rfl rfl ?_; exact Bk.fin (by rw [show mkRat 1 2 = (2 : Rat)⁻¹ by decide +kernel, Rat.div_def]) (by omega)
end
section
set_option maxHeartbeats 4000000
set_option synthInstance.maxHeartbeats 1000000
set_option synthInstance.maxSize 100000
open Go.RowKit Cel
variable {W w : World} {a b : Bool} {d1 n1 : Int} {p1 : Option Addr} {x y : Rat}
instance (priority := low) Ik.of {n2 d2 : Int} {p2 : Option Addr} [h1 : CF W (.agg #[.int .i64 n1, .int .i64 d1, .pointer p1]) x 3000] [h2 : CF W (.agg #[.int .i64 n2, .int .i64 d2, .pointer p2]) y 3000] : Ik W ⟨⟨n1, d1, p1⟩, ⟨n2, d2, p2⟩, a, b⟩ ⟨x, y, a, b⟩ := ⟨h1, h2, rfl, rfl⟩
instance (priority := low) Ik.lo [h1 : CF W (.agg #[.int .i64 n1, .int .i64 d1, .pointer p1]) x 3000] : Ik W ⟨⟨n1, d1, p1⟩, ⟨0, 0, none⟩, false, true⟩ ⟨x, 0, false, true⟩ := ⟨h1, CF.zero (by omega), rfl, rfl⟩
instance (priority := low) Ik.hi [h1 : CF W (.agg #[.int .i64 n1, .int .i64 d1, .pointer p1]) x 3000] : Ik W ⟨⟨0, 0, none⟩, ⟨n1, d1, p1⟩, true, false⟩ ⟨0, x, true, false⟩ := ⟨CF.zero (by omega), h1, rfl, rfl⟩
theorem Qgx : Calls Tryz.prog 236 #[] w (N4 w IQ.all) := by
 go_enter Tryz.func236, Tryz.ntmps236; go_wp2_with fail; refine Ac rfl Tryz.underlying163 rfl (by kernel_rfl) rfl rfl rfl ?_; exact N4.fin ⟨⟨0, 0, none⟩, ⟨0, 0, none⟩, true, true⟩ ⟨CF.zero (by omega), CF.zero (by omega), rfl, rfl⟩
variable {i : IV} {q r : IQ}
theorem K4 [h : Ik w i q] : Calls Tryz.prog 235 #[.agg #[.int .i64 i.u.n, .int .i64 i.u.d, .pointer i.u.p, .int .i64 i.v.n, .int .i64 i.v.d, .pointer i.v.p, .bool i.nl, .bool i.nh]] w (fun e w' => e = .returned (.bool q.empty) ∧ Below w.heap.size w w') := by
 obtain ⟨u, v, a, b⟩ := i; obtain ⟨lo, hi, nl, nh⟩ := q; obtain ⟨hu, hv, ha, hb⟩ := h; obtain rfl : a = nl := ha; obtain rfl : b = nh := hb
 have ju : CF w (.agg #[.int .i64 u.n, .int .i64 u.d, .pointer u.p]) lo 3000 := hu
 have jv : CF w (.agg #[.int .i64 v.n, .int .i64 v.d, .pointer v.p]) hi 3000 := hv
 clear hu hv
 rcases I4 lo hi with ⟨h, hc⟩ | ⟨h, hc⟩ | ⟨h, hc⟩
 all_goals
  have HV := Lib.hid hc; clear hc
  cases a <;> cases b
  all_goals
   go_enter Tryz.func235, Tryz.ntmps235
   go_wp2_with (first
    | (go_at_call 133; refine Aa (Cx (by omega) HV) ?_; intros))
   go_ret
   exact E.fin (congrArg Value.bool (by simp [IQ.empty]; try grind))
theorem Ik.meet {u v : RV} (h1 : CF W (.agg #[.int .i64 u.n, .int .i64 u.d, .pointer u.p]) x 3000) (h2 : CF W (.agg #[.int .i64 v.n, .int .i64 v.d, .pointer v.p]) y 3000) (e1 : x = (q.meet r).lo) (e2 : y = (q.meet r).hi) (e3 : a = (q.meet r).nl) (e4 : b = (q.meet r).nh) : Ik W ⟨u, v, a, b⟩ (q.meet r) := ⟨e1 ▸ h1, e2 ▸ h2, e3, e4⟩
theorem St {j : IV} [h : Ik w i q] [h' : Ik w j r] : Calls Tryz.prog 214 #[.agg #[.int .i64 i.u.n, .int .i64 i.u.d, .pointer i.u.p, .int .i64 i.v.n, .int .i64 i.v.d, .pointer i.v.p, .bool i.nl, .bool i.nh], .agg #[.int .i64 j.u.n, .int .i64 j.u.d, .pointer j.u.p, .int .i64 j.v.n, .int .i64 j.v.d, .pointer j.v.p, .bool j.nl, .bool j.nh]] w (G7 w (q.meet r) (!(q.meet r).empty)) := by
 obtain ⟨u, v, a, b⟩ := i; obtain ⟨u', v', c, d⟩ := j; obtain ⟨lo, hi, nl, nh⟩ := q; obtain ⟨lo', hi', nl', nh'⟩ := r; obtain ⟨hu, hv, ha, hb⟩ := h; obtain ⟨hu', hv', hc, hd⟩ := h'; obtain rfl : a = nl := ha; obtain rfl : b = nh := hb; obtain rfl : c = nl' := hc; obtain rfl : d = nh' := hd
 have ju : CF w (.agg #[.int .i64 u.n, .int .i64 u.d, .pointer u.p]) lo 3000 := hu
 have jv : CF w (.agg #[.int .i64 v.n, .int .i64 v.d, .pointer v.p]) hi 3000 := hv
 have ju' : CF w (.agg #[.int .i64 u'.n, .int .i64 u'.d, .pointer u'.p]) lo' 3000 := hu'
 have jv' : CF w (.agg #[.int .i64 v'.n, .int .i64 v'.d, .pointer v'.p]) hi' 3000 := hv'
 clear hu hv hu' hv'; go_enter Tryz.func214, Tryz.ntmps214
 cases a
 ·cases b
  ·cases c <;> cases d
   all_goals
    go_wp2_with (first
     | (go_at_call 234; refine Ab (Jj (by omega)) ?_; intros)
     | (go_at_call 178; refine Ab (Hb (by omega)) ?_; intros))
    refine rgn [w.heap.size + 1 + 1] [] fun hH => ?_; refine tk 0 hH ?_; refine tk 1 hH (st 2 fun K hK => ?_); go_simp; refine Aa (K4 (i := ⟨⟨_, _, _⟩, ⟨_, _, _⟩, _, _⟩)) ?_; intros; refine hd hK fun hH => ?_; refine tk 3 hH (st 4 fun K hK => ?_); go_simp; refine hd hK fun hH => ?_; refine tk 5 hH (dn ?_); clear hH; go_wp2_with fail
    refine B6 rfl Tryz.underlying163 rfl (by kernel_rfl) rfl rfl rfl ?_
    exact G7.fin ⟨⟨_, _, _⟩, ⟨_, _, _⟩, _, _⟩ (Ik.meet ii ii (by simp [IQ.meet, rmax]) (by simp [IQ.meet, rmin]) (by simp [IQ.meet]) (by simp [IQ.meet])) (by simp [IQ.meet, rmax, rmin])
  ·cases c <;> cases d
   all_goals
    go_wp2_with (first
     | (go_at_call 234; refine Ab (Jj (by omega)) ?_; intros)
     | (go_at_call 178; refine Ab (Hb (by omega)) ?_; intros))
    go_region
    go_wp2_with fail; refine rgn [w.heap.size + 1 + 1] [] fun hH => ?_; refine tk 0 hH ?_; refine tk 1 hH (st 2 fun K hK => ?_); go_simp; refine Aa (K4 (i := ⟨⟨_, _, _⟩, ⟨_, _, _⟩, _, _⟩)) ?_; intros; refine hd hK fun hH => ?_; refine tk 3 hH (st 4 fun K hK => ?_); go_simp; refine hd hK fun hH => ?_; refine tk 5 hH (dn ?_); clear hH; go_wp2_with fail
    refine B6 rfl Tryz.underlying163 rfl (by kernel_rfl) rfl rfl rfl ?_
    exact G7.fin ⟨⟨_, _, _⟩, ⟨_, _, _⟩, _, _⟩ (Ik.meet ii ii (by simp [IQ.meet, rmax]) (by simp [IQ.meet, rmin]) (by simp [IQ.meet]) (by simp [IQ.meet])) (by simp [IQ.meet, rmax, rmin])
 ·cases b
  ·cases c <;> cases d
   all_goals
    go_wp2_with (first
     | (go_at_call 234; refine Ab (Jj (by omega)) ?_; intros)
     | (go_at_call 178; refine Ab (Hb (by omega)) ?_; intros))
    go_region
    go_wp2_with (first
     | (go_at_call 234; refine Ab (Jj (by omega)) ?_; intros)
     | (go_at_call 178; refine Ab (Hb (by omega)) ?_; intros))
    refine rgn [w.heap.size + 1 + 1] [] fun hH => ?_; refine tk 0 hH ?_; refine tk 1 hH (st 2 fun K hK => ?_); go_simp; refine Aa (K4 (i := ⟨⟨_, _, _⟩, ⟨_, _, _⟩, _, _⟩)) ?_; intros; refine hd hK fun hH => ?_; refine tk 3 hH (st 4 fun K hK => ?_); go_simp; refine hd hK fun hH => ?_; refine tk 5 hH (dn ?_); clear hH; go_wp2_with fail
    refine B6 rfl Tryz.underlying163 rfl (by kernel_rfl) rfl rfl rfl ?_
    exact G7.fin ⟨⟨_, _, _⟩, ⟨_, _, _⟩, _, _⟩ (Ik.meet ii ii (by simp [IQ.meet, rmax]) (by simp [IQ.meet, rmin]) (by simp [IQ.meet]) (by simp [IQ.meet])) (by simp [IQ.meet, rmax, rmin])
  ·cases c <;> cases d
   all_goals
    go_wp2_with (first
     | (go_at_call 234; refine Ab (Jj (by omega)) ?_; intros)
     | (go_at_call 178; refine Ab (Hb (by omega)) ?_; intros))
    go_region
    go_wp2_with (first
     | (go_at_call 234; refine Ab (Jj (by omega)) ?_; intros)
     | (go_at_call 178; refine Ab (Hb (by omega)) ?_; intros))
    go_region
    go_wp2_with fail; refine rgn [w.heap.size + 1 + 1] [] fun hH => ?_; refine tk 0 hH ?_; refine tk 1 hH (st 2 fun K hK => ?_); go_simp; refine Aa (K4 (i := ⟨⟨_, _, _⟩, ⟨_, _, _⟩, _, _⟩)) ?_; intros; refine hd hK fun hH => ?_; refine tk 3 hH (st 4 fun K hK => ?_); go_simp; refine hd hK fun hH => ?_; refine tk 5 hH (dn ?_); clear hH; go_wp2_with fail
    refine B6 rfl Tryz.underlying163 rfl (by kernel_rfl) rfl rfl rfl ?_
    exact G7.fin ⟨⟨_, _, _⟩, ⟨_, _, _⟩, _, _⟩ (Ik.meet ii ii (by simp [IQ.meet, rmax]) (by simp [IQ.meet, rmin]) (by simp [IQ.meet]) (by simp [IQ.meet])) (by simp [IQ.meet, rmax, rmin])
theorem Y8 [h : Ik w i q] : Calls Tryz.prog 177 #[.agg #[.int .i64 i.u.n, .int .i64 i.u.d, .pointer i.u.p, .int .i64 i.v.n, .int .i64 i.v.d, .pointer i.v.p, .bool i.nl, .bool i.nh]] w (Bk w q.sample 6010) := by
 obtain ⟨u, v, a, b⟩ := i; obtain ⟨lo, hi, nl, nh⟩ := q; obtain ⟨hu, hv, ha, hb⟩ := h; obtain rfl : a = nl := ha; obtain rfl : b = nh := hb
 have ju : CF w (.agg #[.int .i64 u.n, .int .i64 u.d, .pointer u.p]) lo 3000 := hu
 have jv : CF w (.agg #[.int .i64 v.n, .int .i64 v.d, .pointer v.p]) hi 3000 := hv
 clear hu hv; go_enter Tryz.func177, Tryz.ntmps177
 cases a
 ·cases b
  ·go_wp2_with (first
    | (go_at_call 111; refine Ab (Gv (by omega)) ?_; intros)
    | (go_at_call 112; refine Ab (Qp (by omega)) ?_; intros))
   refine Ac rfl Tryz.underlying96 rfl (by kernel_rfl) rfl rfl rfl ?_; exact Bk.fin (by simp [IQ.sample]) (by omega)
  ·go_wp2_with fail; refine rgn [w.heap.size + 1] [] fun hH => ?_; refine tk 0 hH ?_; refine tk 1 hH (st 2 fun K hK => ?_); go_simp; refine Ab (H8 (by omega)) ?_; intros; refine hd hK fun hH => st 3 fun K hK => ?_; go_simp; refine Ab (Gv (by omega)) ?_; intros; refine hd hK fun hH => st 4 fun K hK => ?_; go_simp; refine hd hK fun hH => dn ?_; clear hH; go_wp2; refine Ac rfl Tryz.underlying96 rfl (by kernel_rfl) rfl rfl rfl ?_; exact Bk.fin (by simp [IQ.sample]) (by omega)
 ·cases b
  ·go_wp2_with fail; refine rgn [w.heap.size + 1] [] fun hH => ?_; refine tk 0 hH ?_; refine tk 1 hH (st 2 fun K hK => ?_); go_simp; refine Ab (H8 (by omega)) ?_; intros; refine hd hK fun hH => st 3 fun K hK => ?_; go_simp; refine Ab (Dn (by omega)) ?_; intros; refine hd hK fun hH => st 4 fun K hK => ?_; go_simp; refine hd hK fun hH => dn ?_; clear hH; go_wp2; refine Ac rfl Tryz.underlying96 rfl (by kernel_rfl) rfl rfl rfl ?_; exact Bk.fin (by simp [IQ.sample]) (by omega)
  ·go_wp2_with fail; refine Ac rfl Tryz.underlying96 rfl (by kernel_rfl) rfl rfl rfl ?_; exact Bk.fin (by simp [IQ.sample]) (by omega)
end
section
open Cel
variable {m : Aff}
theorem Uh (hm : m.det ≠ 0) {p q : Rat × Rat} (h : m.to p = m.to q) : p = q := by
 have h0 : m.det = m.A * m.E - m.D * m.B := rfl
 have h1 : m.A * p.1 + m.B * p.2 + m.C = m.A * q.1 + m.B * q.2 + m.C := congrArg Prod.fst h
 have h2 : m.D * p.1 + m.E * p.2 + m.F = m.D * q.1 + m.E * q.2 + m.F := congrArg Prod.snd h
 have e1 : m.det * (p.1 - q.1) = 0 := by rw [h0]; grind
 have e2 : m.det * (p.2 - q.2) = 0 := by rw [h0]; grind
 have f1 := (Rat.mul_eq_zero.1 e1).resolve_left hm
 have f2 := (Rat.mul_eq_zero.1 e2).resolve_left hm
 exact Prod.ext (by grind) (by grind)
variable {L : List (Rat × Rat)} {f : Rat × Rat → Rat × Rat}
theorem Mj {i : Nat} (h : i < L.length) : pg (L.map f) i = f (pg L i) := by
 rw [Aw (by simpa using h), Aw h]; simp
theorem Qeg (hf : ∀ p q, f p = f q → p = q) (L : List (Rat × Rat)) : ∀ k, k ≤ L.length → dsc (L.map f) k = dsc L k := by
 intro k
 induction k with
 | zero => intro _; rfl
 | succ k ih =>
  intro hk; simp only [dsc]; rw [ih (by omega), Mj (by omega)]
  have e : (f (pg L k) ∈ (L.map f).take k) ↔ pg L k ∈ L.take k := by
   rw [← List.map_take, List.mem_map]
   exact ⟨fun ⟨x, hx, e⟩ => hf _ _ e ▸ hx, fun h => ⟨_, h, rfl⟩⟩
  simp only [e]
theorem RingOK.to (hm : m.det ≠ 0) (h : RingOK L) : RingOK (L.map m.to) := by
 have hl : (L.map m.to).length = L.length := List.length_map ..
 refine ⟨by rw [hl, Qeg (fun p q => Uh hm) L _ (Nat.le_refl _)]; exact h.three, fun i hi => ?_⟩
 rw [hl] at hi ⊢; rw [Mj hi, Mj (Nat.mod_lt _ (by omega))]
 exact fun e => h.edge i hi (Uh hm e)
end
end Go.Proofs.YtpnpnlmlamfpmaaGreatDoor
