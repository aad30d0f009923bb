/-
  Texts of this claim, joined: Pf, Rc2.
-/
import Derived.Test.YtdlnoeegboapkaaGreatDoorCN
import Derived.Test.YtdlnoeegboapkaaGreatDoorHKA
/- Points that came in as arguments: whether they are short, normal forms. printed by a small program (mkpf.py). -/
namespace Go.Proofs.YtdlnoeegboapkaaGreatDoor
open Go.RowKit
set_option maxRecDepth 100000
set_option maxHeartbeats 40000000
set_option synthInstance.maxSize 100000
set_option synthInstance.maxHeartbeats 1000000

theorem loadVar_off {P : Program} (W : World) (b off : Nat) (ty : TypeId) (vs : List Value) (d : TypeDesc) (hu : P.underlying ty = some d) (hd : (match d with | .struct _ | .array _ _ => true | _ => false) = true)
    (hi : (P.info? ty).map (·.size) = some vs.length) (hc : ∀ j (hj : j < vs.length), W.cell? ⟨b, off + j, none⟩ = some vs[j]) : (loadVar ty ⟨b, off, none⟩).run P W = .ok (.agg vs.toArray) W := by
  have hl : (loadCells ⟨b, off, none⟩ vs.length).run P W = .ok vs.toArray W :=
    run_loadCells_list (P := P) W ⟨b, off, none⟩ vs (fun j v hv => by
      have hadd : (⟨b, off, none⟩ : Addr).add j = ⟨b, off + j, none⟩ := by unfold Addr.add; split <;> simp_all
      rw [hadd]
      have hj : j < vs.length := by
        rcases Nat.lt_or_ge j vs.length with h | h
        · exact h
        · rw [List.getElem?_eq_none h] at hv; cases hv
      rw [hc j hj, ← hv, List.getElem?_eq_getElem hj])
  cases hq : P.info? ty with
  | none => simp [hq] at hi
  | some i =>
    have hs : i.size = vs.length := by simpa [hq] using hi
    have hagg : (isAgg ty).run P W = .ok true W := by
      unfold isAgg
      rw [Sem.run_bind, run_underlying hu W]
      cases d <;> simp_all
    simp [loadVar, hagg, sizeOf, typeInfo, hq, hs, hl]
/-- All four lengths are at most n. -/
def small4 (n a b c d : Nat) : Bool := decide (a ≤ n ∧ b ≤ n ∧ c ≤ n ∧ d ≤ n)
theorem smallQ2 {w : World} {q : Nat} {g1 : Bool} {a1 aa1 : Option Addr} {l1 c1 ll1 cc1 : Nat} {g2 : Bool} {a2 aa2 : Option Addr} {l2 c2 ll2 cc2 : Nat} [h : Bx w q 29 [.bool g1, .slice a1 l1 c1, .slice aa1 ll1 cc1, .bool g2, .slice a2 l2 c2, .slice aa2 ll2 cc2]] {v : Bool} (hv : Hid (small4 6 l1 ll1 l2 ll2 = v)) :
    Calls Tryz.prog 114 #[.int .i64 6, .slice (some ⟨q, 0, none⟩) 2 2] w fun e w' => e = .returned (.bool v) ∧ Below w.heap.size w w' := by
  have HV : Hid (decide (l1 ≤ 6 ∧ ll1 ≤ 6 ∧ l2 ≤ 6 ∧ ll2 ≤ 6) = v) := hv
  clear hv
  by_cases h0 : l1 ≤ 6
  · by_cases h1 : ll1 ≤ 6
    · by_cases h2 : l2 ≤ 6
      · by_cases h3 : ll2 ≤ 6
        · have f0 : (l1 : Int) ≤ 6 := by omega
          have f1 : (ll1 : Int) ≤ 6 := by omega
          have f2 : (l2 : Int) ≤ 6 := by omega
          have f3 : (ll2 : Int) ≤ 6 := by omega
          obtain rfl : true = v := by have := HV.out; rw [← this]; simp; omega
          clear HV
          go_enter Tryz.func114, Tryz.ntmps114
          go_wp2_with fail
          refine wp_loop_rounds 3 ?_
          rw [rounds_succ]
          go_wp2_with fail
          rw [rounds_succ]
          go_wp2_with fail
          rw [rounds_succ]
          go_wp2_with fail
          go_ret
          exact E.fin rfl
        · have f0 : (l1 : Int) ≤ 6 := by omega
          have f1 : (ll1 : Int) ≤ 6 := by omega
          have f2 : (l2 : Int) ≤ 6 := by omega
          have f3 : (6 : Int) < ll2 := by omega
          obtain rfl : false = v := by have := HV.out; rw [← this]; simp; omega
          clear HV
          go_enter Tryz.func114, Tryz.ntmps114
          go_wp2_with fail
          refine wp_loop_rounds 2 ?_
          rw [rounds_succ]
          go_wp2_with fail
          rw [rounds_succ]
          go_wp2_with fail
          go_ret
          exact E.fin rfl
      · have f0 : (l1 : Int) ≤ 6 := by omega
        have f1 : (ll1 : Int) ≤ 6 := by omega
        have f2 : (6 : Int) < l2 := by omega
        obtain rfl : false = v := by have := HV.out; rw [← this]; simp; omega
        clear HV
        go_enter Tryz.func114, Tryz.ntmps114
        go_wp2_with fail
        refine wp_loop_rounds 2 ?_
        rw [rounds_succ]
        go_wp2_with fail
        rw [rounds_succ]
        go_wp2_with fail
        go_ret
        exact E.fin rfl
    · have f0 : (l1 : Int) ≤ 6 := by omega
      have f1 : (6 : Int) < ll1 := by omega
      obtain rfl : false = v := by have := HV.out; rw [← this]; simp; omega
      clear HV
      go_enter Tryz.func114, Tryz.ntmps114
      go_wp2_with fail
      refine wp_loop_rounds 1 ?_
      rw [rounds_succ]
      go_wp2_with fail
      go_ret
      exact E.fin rfl
  · have f0 : (6 : Int) < l1 := by omega
    obtain rfl : false = v := by have := HV.out; rw [← this]; simp; omega
    clear HV
    go_enter Tryz.func114, Tryz.ntmps114
    go_wp2_with fail
    refine wp_loop_rounds 1 ?_
    rw [rounds_succ]
    go_wp2_with fail
    go_ret
    exact E.fin rfl

theorem gNormalL {w : World} {g1 : Bool} {a1 aa1 : Option Addr} {l1 c1 ll1 cc1 : Nat} {g2 : Bool} {a2 aa2 : Option Addr} {l2 c2 ll2 cc2 : Nat} {LX LLX LY LLY : List Nat} [h1 : RL w (.slice a1 l1 c1) LX] [h2 : RL w (.slice aa1 ll1 cc1) LLX] [h3 : RL w (.slice a2 l2 c2) LY] [h4 : RL w (.slice aa2 ll2 cc2) LLY] (b : LX.length ≤ 30000 ∧ LLX.length ≤ 30000 ∧ LY.length ≤ 30000 ∧ LLY.length ≤ 30000) {v : Bool} (hv : Hid ((nrmQ g1 LX LLX && nrmQ g2 LY LLY) = v)) :
    Calls Tryz.prog 142 #[.agg #[.bool g1, .slice a1 l1 c1, .slice aa1 ll1 cc1, .bool g2, .slice a2 l2 c2, .slice aa2 ll2 cc2]] w fun e w' => e = .returned (.bool v) ∧ Below w.heap.size w w' := by
  obtain ⟨b1, b2, b3, b4⟩ := b
  obtain ⟨x, hx⟩ : ∃ x, nrmQ g1 LX LLX = x := ⟨_, rfl⟩
  obtain ⟨y, hy⟩ : ∃ y, nrmQ g2 LY LLY = y := ⟨_, rfl⟩
  have HV : Hid ((x && y) = v) := by show _ = _; rw [← hx, ← hy]; exact hv.out
  have HX := Lib.hid hx
  have HY := Lib.hid hy
  clear hx hy hv
  cases x with
  | true =>
    go_enter Tryz.func142, Tryz.ntmps142
    go_wp2_with (first
      | (go_at_call 200; (with_reducible refine Calls.cE (fracNormalL ⟨by omega, by omega⟩ HX) ?_); intros)
      | (go_at_call 200; (with_reducible refine Calls.cE (fracNormalL ⟨by omega, by omega⟩ HY) ?_); intros))
    go_ret
    exact E.fin (by rw [← HV.out]; rfl)
  | false =>
    go_enter Tryz.func142, Tryz.ntmps142
    go_wp2_with (first
      | (go_at_call 200; (with_reducible refine Calls.cE (fracNormalL ⟨by omega, by omega⟩ HX) ?_); intros)
      | (go_at_call 200; (with_reducible refine Calls.cE (fracNormalL ⟨by omega, by omega⟩ HY) ?_); intros))
    go_ret
    exact E.fin (by rw [← HV.out]; rfl)

theorem refNormalL {w : World} {g1 : Bool} {a1 aa1 : Option Addr} {l1 c1 ll1 cc1 : Nat} {g2 : Bool} {a2 aa2 : Option Addr} {l2 c2 ll2 cc2 : Nat} {LX LLX LY LLY : List Nat} [h1 : RL w (.slice a1 l1 c1) LX] [h2 : RL w (.slice aa1 ll1 cc1) LLX] [h3 : RL w (.slice a2 l2 c2) LY] [h4 : RL w (.slice aa2 ll2 cc2) LLY] (b : LX.length ≤ 30000 ∧ LLX.length ≤ 30000 ∧ LY.length ≤ 30000 ∧ LLY.length ≤ 30000) {v : Bool} (hv : Hid ((nrmQ g1 LX LLX && nrmQ g2 LY LLY) = v)) :
    Calls Tryz.prog 115 #[.agg #[.bool g1, .slice a1 l1 c1, .slice aa1 ll1 cc1, .bool g2, .slice a2 l2 c2, .slice aa2 ll2 cc2]] w fun e w' => e = .returned (.bool v) ∧ Below w.heap.size w w' := by
  obtain ⟨b1, b2, b3, b4⟩ := b
  obtain ⟨x, hx⟩ : ∃ x, nrmQ g1 LX LLX = x := ⟨_, rfl⟩
  obtain ⟨y, hy⟩ : ∃ y, nrmQ g2 LY LLY = y := ⟨_, rfl⟩
  have HV : Hid ((x && y) = v) := by show _ = _; rw [← hx, ← hy]; exact hv.out
  have HX := Lib.hid hx
  have HY := Lib.hid hy
  clear hx hy hv
  cases x with
  | true =>
    go_enter Tryz.func115, Tryz.ntmps115
    go_wp2_with (first
      | (go_at_call 179; (with_reducible refine Calls.cE (normalQL ⟨by omega, by omega⟩ HX) ?_); intros)
      | (go_at_call 179; (with_reducible refine Calls.cE (normalQL ⟨by omega, by omega⟩ HY) ?_); intros))
    go_ret
    exact E.fin (by rw [← HV.out]; rfl)
  | false =>
    go_enter Tryz.func115, Tryz.ntmps115
    go_wp2_with (first
      | (go_at_call 179; (with_reducible refine Calls.cE (normalQL ⟨by omega, by omega⟩ HX) ?_); intros)
      | (go_at_call 179; (with_reducible refine Calls.cE (normalQL ⟨by omega, by omega⟩ HY) ?_); intros))
    go_ret
    exact E.fin (by rw [← HV.out]; rfl)

theorem smallP2 {w : World} {q : Nat} {g1 : Bool} {a1 aa1 : Option Addr} {l1 c1 ll1 cc1 : Nat} {g2 : Bool} {a2 aa2 : Option Addr} {l2 c2 ll2 cc2 : Nat} {g3 : Bool} {a3 aa3 : Option Addr} {l3 c3 ll3 cc3 : Nat} {g4 : Bool} {a4 aa4 : Option Addr} {l4 c4 ll4 cc4 : Nat} [h : Bx w q 31 [.bool g1, .slice a1 l1 c1, .slice aa1 ll1 cc1, .bool g2, .slice a2 l2 c2, .slice aa2 ll2 cc2, .bool g3, .slice a3 l3 c3, .slice aa3 ll3 cc3, .bool g4, .slice a4 l4 c4, .slice aa4 ll4 cc4]] {v : Bool} (hv : Hid ((small4 6 l1 ll1 l2 ll2 && small4 6 l3 ll3 l4 ll4) = v)) :
    Calls Tryz.prog 50 #[.int .i64 6, .slice (some ⟨q, 0, none⟩) 2 2] w fun e w' => e = .returned (.bool v) ∧ Below w.heap.size w w' := by
  obtain ⟨x, hx⟩ : ∃ x, small4 6 l1 ll1 l2 ll2 = x := ⟨_, rfl⟩
  obtain ⟨y, hy⟩ : ∃ y, small4 6 l3 ll3 l4 ll4 = y := ⟨_, rfl⟩
  have HV : Hid ((x && y) = v) := by show _ = _; rw [← hx, ← hy]; exact hv.out
  have HX := Lib.hid hx
  have HY := Lib.hid hy
  clear hx hy hv
  cases x with
  | false =>
    obtain rfl : false = v := HV.out
    go_enter Tryz.func50, Tryz.ntmps50
    go_wp2_with fail
    refine wp_loop_rounds 1 ?_
    rw [rounds_succ]
    go_wp2_with (first | (go_at_call 114; (with_reducible refine Calls.cE (smallQ2 HX) ?_); intros) | (go_at_call 114; (with_reducible refine Calls.cE (smallQ2 HY) ?_); intros))
    go_ret
    exact E.fin rfl
  | true =>
    obtain rfl : y = v := HV.out
    cases y with
    | false =>
      go_enter Tryz.func50, Tryz.ntmps50
      go_wp2_with fail
      refine wp_loop_rounds 2 ?_
      rw [rounds_succ]
      go_wp2_with (first | (go_at_call 114; (with_reducible refine Calls.cE (smallQ2 HX) ?_); intros) | (go_at_call 114; (with_reducible refine Calls.cE (smallQ2 HY) ?_); intros))
      rw [rounds_succ]
      go_wp2_with (first | (go_at_call 114; (with_reducible refine Calls.cE (smallQ2 HX) ?_); intros) | (go_at_call 114; (with_reducible refine Calls.cE (smallQ2 HY) ?_); intros))
      go_ret
      exact E.fin rfl
    | true =>
      go_enter Tryz.func50, Tryz.ntmps50
      go_wp2_with fail
      refine wp_loop_rounds 3 ?_
      rw [rounds_succ]
      go_wp2_with (first | (go_at_call 114; (with_reducible refine Calls.cE (smallQ2 HX) ?_); intros) | (go_at_call 114; (with_reducible refine Calls.cE (smallQ2 HY) ?_); intros))
      rw [rounds_succ]
      go_wp2_with (first | (go_at_call 114; (with_reducible refine Calls.cE (smallQ2 HX) ?_); intros) | (go_at_call 114; (with_reducible refine Calls.cE (smallQ2 HY) ?_); intros))
      rw [rounds_succ]
      go_wp2_with (first | (go_at_call 114; (with_reducible refine Calls.cE (smallQ2 HX) ?_); intros) | (go_at_call 114; (with_reducible refine Calls.cE (smallQ2 HY) ?_); intros))
      go_ret
      exact E.fin rfl

end Go.Proofs.YtdlnoeegboapkaaGreatDoor

/- Points that came in, digit by digit: rows of raw points; strconv.Itoa at a digit. -/
namespace Go.Proofs.YtdlnoeegboapkaaGreatDoor
open Go.RowKit
set_option linter.unusedVariables false
set_option maxRecDepth 100000
set_option maxHeartbeats 4000000
set_option synthInstance.maxSize 100000
set_option synthInstance.maxHeartbeats 1000000

theorem CA.ofRL {W : World} {g : Bool} {a aa : Option Addr} {l c ll cc k : Nat} {L LL : List Nat} (h1 : RL W (.slice a l c) L) (h2 : RL W (.slice aa ll cc) LL) (hn : nrmQ g L LL = true) (b : L.length ≤ k ∧ LL.length ≤ k) :
    CA W (.agg #[.bool g, .slice a l c, .slice aa ll cc]) (mkRat (sgn g (val L)) (val LL)) k := by
  have d1 : Dig L := h1.out.dig
  have d2 : Dig LL := h2.out.dig
  rw [← nrm_ref d1 d2] at hn
  simp only [refB, sameP, Bool.and_eq_true, decide_eq_true_eq] at hn
  obtain ⟨⟨⟨e1, e2⟩, e3⟩, _⟩ := hn
  have f2 : L = nf (mkRat (sgn g (val L)) (val LL)).num.natAbs := by simpa [sameB] using e2
  have f3 : LL = nf (mkRat (sgn g (val L)) (val LL)).den := by simpa [sameB] using e3
  exact ⟨g, a, l, c, aa, ll, cc, rfl, ⟨e1, by rw [← f2]; exact h1.out, by rw [← f2]; exact b.1⟩, by rw [← f3]; exact h2.out, by rw [← f3]; exact b.2⟩
/-- The digits of a point. -/
structure RD where
  x : List Nat
  xx : List Nat
  y : List Nat
  yy : List Nat
/-- The cells V read as the digits D. -/
class PsL (W : World) (V : List AV) (D : outParam (Nat → RD)) : Prop where
  x : ∀ i, i < V.length → RL W (.slice (av V i).ax (av V i).lx (av V i).cx) (D i).x
  xx : ∀ i, i < V.length → RL W (.slice (av V i).aax (av V i).llx (av V i).ccx) (D i).xx
  y : ∀ i, i < V.length → RL W (.slice (av V i).ay (av V i).ly (av V i).cy) (D i).y
  yy : ∀ i, i < V.length → RL W (.slice (av V i).aay (av V i).lly (av V i).ccy) (D i).yy
section
variable {W W2 w0 : World} {V : List AV} {D : Nat → RD}
instance PsL.al {o : Obj} [h : PsL W V D] : PsL (W.alloc o) V D := ⟨fun i hi => by have := h.x i hi; infer_instance, fun i hi => by have := h.xx i hi; infer_instance, fun i hi => by have := h.y i hi; infer_instance, fun i hi => by have := h.yy i hi; infer_instance⟩
instance PsL.dr [h : PsL W V D] : PsL W.drew V D := ⟨fun i hi => by have := h.x i hi; infer_instance, fun i hi => by have := h.xx i hi; infer_instance, fun i hi => by have := h.y i hi; infer_instance, fun i hi => by have := h.yy i hi; infer_instance⟩
instance (priority := low) PsL.kp [k : Kp1 W W2] [h : PsL W V D] : PsL W2 V D := ⟨fun i hi => by have := h.x i hi; infer_instance, fun i hi => by have := h.xx i hi; infer_instance, fun i hi => by have := h.y i hi; infer_instance, fun i hi => by have := h.yy i hi; infer_instance⟩
instance PsL.st {q i : Nat} {x : Value} [s : SoftB W q] [h : PsL W V D] : PsL (W.setCell ⟨q, i, none⟩ x) V D := ⟨fun i hi => by have := h.x i hi; infer_instance, fun i hi => by have := h.xx i hi; infer_instance, fun i hi => by have := h.y i hi; infer_instance, fun i hi => by have := h.yy i hi; infer_instance⟩
instance PsL.ix {i : Nat} [h : PsL W V D] [l : LtN i V.length] : RL W (.slice (av V i).ax (av V i).lx (av V i).cx) (D i).x := h.x i l.out
instance PsL.ixx {i : Nat} [h : PsL W V D] [l : LtN i V.length] : RL W (.slice (av V i).aax (av V i).llx (av V i).ccx) (D i).xx := h.xx i l.out
instance PsL.iy {i : Nat} [h : PsL W V D] [l : LtN i V.length] : RL W (.slice (av V i).ay (av V i).ly (av V i).cy) (D i).y := h.y i l.out
instance PsL.iyy {i : Nat} [h : PsL W V D] [l : LtN i V.length] : RL W (.slice (av V i).aay (av V i).lly (av V i).ccy) (D i).yy := h.yy i l.out
end
/-- The point i is in normal form. -/
def nrmP (V : List AV) (D : Nat → RD) (i : Nat) : Bool := nrmQ (av V i).gx (D i).x (D i).xx && nrmQ (av V i).gy (D i).y (D i).yy
/-- What it is then. -/
def ratP (V : List AV) (D : Nat → RD) (i : Nat) : Rat × Rat := (mkRat (sgn (av V i).gx (val (D i).x)) (val (D i).xx), mkRat (sgn (av V i).gy (val (D i).y)) (val (D i).yy))
/-- At most k digits. -/
def smlP (D : Nat → RD) (k i : Nat) : Prop := (D i).x.length ≤ k ∧ (D i).xx.length ≤ k ∧ (D i).y.length ≤ k ∧ (D i).yy.length ≤ k
theorem PsA.ofL {W : World} {V : List AV} {D : Nat → RD} {k : Nat} (h : PsL W V D) (hn : ∀ i, i < V.length → nrmP V D i = true) (hs : ∀ i, i < V.length → smlP D k i) : PsA W V ((List.range V.length).map (ratP V D)) k := by
  have e : ∀ i, i < V.length → pg ((List.range V.length).map (ratP V D)) i = ratP V D i := fun i hi => by rw [pg_get (by simpa using hi)]; simp
  refine ⟨by simp, fun i hi => ?_, fun i hi => ?_⟩
  · have h1 := hn i hi
    simp only [nrmP, Bool.and_eq_true] at h1
    rw [e i hi]
    exact CA.ofRL (h.x i hi) (h.xx i hi) h1.1 ⟨(hs i hi).1, (hs i hi).2.1⟩
  · have h1 := hn i hi
    simp only [nrmP, Bool.and_eq_true] at h1
    rw [e i hi]
    exact CA.ofRL (h.y i hi) (h.yy i hi) h1.2 ⟨(hs i hi).2.2.1, (hs i hi).2.2.2⟩
/-- A string is returned. -/
def StrRet (w : World) (e : Ending) (w' : World) : Prop := ∃ s : ByteArray, e = .returned (.string s) ∧ s.size ≤ 20 ∧ Below w.heap.size w w'
theorem Calls.cStrR {P : Program} {f : FuncId} {args : Array Value} {w : World} {K : Ending → World → Prop} (h : Calls P f args w (StrRet w))
    (hK : ∀ w' [Kp1 w w'] (s : ByteArray), s.size ≤ 20 → K (.returned (.string s)) w') : Calls P f args w K := by
  refine h.mono ?_
  rintro e w' ⟨s, rfl, hs, hb⟩
  exact @hK w' ⟨hb⟩ s hs
theorem smallC {w : World} {i : Nat} (hi : i < 10) : Calls Tryz.prog 285 #[.int .i64 (i : Int)] w (StrRet w) := by
  have h1 : (i : Int) < 10 := by omega
  have ew : IntKind.i64.wrap ((i : Int) + 1) = (i : Int) + 1 := wr_in (by omega) (by omega)
  go_enter Tryz.func285, Tryz.ntmps285
  go_wp2
  go_ret
  exact ⟨_, rfl, by simp; omega, (inferInstance : Kp w _).out⟩
theorem StrRet.fin {w w' : World} {s : ByteArray} [k : Kp w w'] (h : s.size ≤ 20) : StrRet w (.returned (.string s)) w' := ⟨s, rfl, h, k.out⟩
theorem formatIntC {w : World} {i : Nat} (hi : i < 10) : Calls Tryz.prog 264 #[.int .i64 (i : Int), .int .i64 10] w (StrRet w) := by
  have h1 : (i : Int) < 100 := by omega
  have h2 : (0 : Int) ≤ (i : Int) := by omega
  go_enter Tryz.func264, Tryz.ntmps264
  go_wp2_with (first
    | (go_at_call 285; (with_reducible refine Calls.cStrR (smallC hi) ?_); intro w1 _ s hs))
  go_ret
  exact StrRet.fin hs
theorem itoaC {w : World} {i : Nat} (hi : i < 10) : Calls Tryz.prog 143 #[.int .i64 (i : Int)] w (StrRet w) := by
  have hI : ∀ W, Calls Tryz.prog 201 #[.int .i64 (i : Int)] W (StrRet W) := fun W => by
    go_enter Tryz.func201, Tryz.ntmps201
    go_wp2_with (first
      | (go_at_call 264; (with_reducible refine Calls.cStrR (formatIntC hi) ?_); intro w1 _ s hs))
    go_ret
    exact StrRet.fin hs
  go_enter Tryz.func143, Tryz.ntmps143
  go_wp2_with (first
    | (go_at_call 201; (with_reducible refine Calls.cStrR (hI _) ?_); intro w1 _ s hs))
  go_ret
  exact StrRet.fin hs
end Go.Proofs.YtdlnoeegboapkaaGreatDoor
