import Derived.Test.YtpnpnlmlamfpmaaGreatDoorS30
import Derived.Test.YtpnpnlmlamfpmaaGreatDoorS33
namespace Go.Proofs.YtpnpnlmlamfpmaaGreatDoor
set_option linter.unusedSimpArgs false
set_option linter.unusedVariables false
set_option maxHeartbeats 4000000
set_option maxRecDepth 100000
set_option synthInstance.maxHeartbeats 1000000
set_option synthInstance.maxSize 100000
section
open Go.RowKit Cel
theorem Hi {o : Oper} {ev : Operand → Value} {t : TypeId} {x : Operand} {ad : Addr} {v : Value} {wx : World} (hop : o.op = .load t x) (hx : ev x = .pointer (some ad)) (hl : (loadVar t ad).run Tryz.prog wx = .ok v wx) : (execOp ev o).run Tryz.prog wx = .ok (.value v) wx := by
 simp [execOp, hop, hx, Instr.loadAt, Instr.sureAddr, hl, Result.andThen]
variable {w : World}
theorem L8 {n1x d1x n1y d1y n2 d2 : Int} {p1x p1y p2 : Option Addr} {x1 y1 z : Rat} {k j : Nat} [h1x : CF w (.agg #[.int .i64 n1x, .int .i64 d1x, .pointer p1x]) x1 k] [h1y : CF w (.agg #[.int .i64 n1y, .int .i64 d1y, .pointer p1y]) y1 k] [h2 : CF w (.agg #[.int .i64 n2, .int .i64 d2, .pointer p2]) z j] (b : k ≤ 1000 ∧ j ≤ 1000) :
  Calls Tryz.prog 120 #[.agg #[.int .i64 n1x, .int .i64 d1x, .pointer p1x, .int .i64 n1y, .int .i64 d1y, .pointer p1y], .agg #[.int .i64 n2, .int .i64 d2, .pointer p2]] w (Cd w (x1 * z) (y1 * z) (max k k + j + 2)) := K3 (by omega)
variable {m : Aff} {p : PV} {v : AW} {x y : Rat}
theorem Ug {ka kp : Nat} [ha : CF w (.agg #[.int .i64 v.p.x.n, .int .i64 v.p.x.d, .pointer v.p.x.p]) m.A ka] [hdd : CF w (.agg #[.int .i64 v.p.y.n, .int .i64 v.p.y.d, .pointer v.p.y.p]) m.D ka] [hb : CF w (.agg #[.int .i64 v.q.x.n, .int .i64 v.q.x.d, .pointer v.q.x.p]) m.B ka] [he : CF w (.agg #[.int .i64 v.q.y.n, .int .i64 v.q.y.d, .pointer v.q.y.p]) m.E ka] [hx : CF w (.agg #[.int .i64 p.x.n, .int .i64 p.x.d, .pointer p.x.p]) x kp] [hy : CF w (.agg #[.int .i64 p.y.n, .int .i64 p.y.d, .pointer p.y.p]) y kp] (b : ka ≤ 1000 ∧ kp ≤ 1000) : Calls Tryz.prog 81 #[.agg #[.int .i64 v.p.x.n, .int .i64 v.p.x.d, .pointer v.p.x.p, .int .i64 v.p.y.n, .int .i64 v.p.y.d, .pointer v.p.y.p, .int .i64 v.q.x.n, .int .i64 v.q.x.d, .pointer v.q.x.p, .int .i64 v.q.y.n, .int .i64 v.q.y.d, .pointer v.q.y.p, .int .i64 v.r.x.n, .int .i64 v.r.x.d, .pointer v.r.x.p, .int .i64 v.r.y.n, .int .i64 v.r.y.d, .pointer v.r.y.p], .agg #[.int .i64 p.x.n, .int .i64 p.x.d, .pointer p.x.p, .int .i64 p.y.n, .int .i64 p.y.d, .pointer p.y.p]] w (Cd w (m.A * x + m.B * y) (m.D * x + m.E * y) (2 * ka + 2 * kp + 7)) := by
 go_enter Tryz.func81, Tryz.ntmps81; go_wp2_with fail; refine rgn [w.heap.size + 1 + 1] [] fun hH => ?_; refine tk 0 hH ?_; refine tk 1 hH ?_; refine tk 2 hH ?_; refine tk 3 hH ?_; refine tk 5 hH ?_; refine tk 6 hH ?_; refine tk 7 hH ?_; refine tk 8 hH (st 4 fun K hK => ?_); go_simp; refine Au (L8 (z := x) (k := ka) (j := kp) (by omega)) ?_; intros; refine hd hK fun hH => st 9 fun K hK => ?_; go_simp; refine Au (L8 (z := y) (k := ka) (j := kp) (by omega)) ?_; intros; refine hd hK fun hH => st 10 fun K hK => ?_; go_simp; refine Au (Ln (by omega)) ?_; intros; refine hd hK fun hH => st 11 fun K hK => ?_; go_simp; refine hd hK fun hH => dn ?_; clear hH; go_wp2_with fail; refine Ac rfl Tryz.underlying98 rfl (by kernel_rfl) rfl rfl rfl ?_; exact Cd.fin rfl (by omega) rfl (by omega)
theorem Qe1 [h : Ak w v m] [hx : CF w (.agg #[.int .i64 p.x.n, .int .i64 p.x.d, .pointer p.x.p]) x 12] [hy : CF w (.agg #[.int .i64 p.y.n, .int .i64 p.y.d, .pointer p.y.p]) y 12] : Calls Tryz.prog 81 #[.agg #[.int .i64 v.p.x.n, .int .i64 v.p.x.d, .pointer v.p.x.p, .int .i64 v.p.y.n, .int .i64 v.p.y.d, .pointer v.p.y.p, .int .i64 v.q.x.n, .int .i64 v.q.x.d, .pointer v.q.x.p, .int .i64 v.q.y.n, .int .i64 v.q.y.d, .pointer v.q.y.p, .int .i64 v.r.x.n, .int .i64 v.r.x.d, .pointer v.r.x.p, .int .i64 v.r.y.n, .int .i64 v.r.y.d, .pointer v.r.y.p], .agg #[.int .i64 p.x.n, .int .i64 p.x.d, .pointer p.x.p, .int .i64 p.y.n, .int .i64 p.y.d, .pointer p.y.p]] w (Cd w (m.A * x + m.B * y) (m.D * x + m.E * y) 75) := by
 have := h.a; have := h.b; have := h.d; have := h.e
 exact Ug (ka := 22) (kp := 12) (by decide)
theorem Zr [h : Ak w v m] [hx : CF w (.agg #[.int .i64 p.x.n, .int .i64 p.x.d, .pointer p.x.p]) x 12] [hy : CF w (.agg #[.int .i64 p.y.n, .int .i64 p.y.d, .pointer p.y.p]) y 12] : Calls Tryz.prog 37 #[.agg #[.int .i64 v.p.x.n, .int .i64 v.p.x.d, .pointer v.p.x.p, .int .i64 v.p.y.n, .int .i64 v.p.y.d, .pointer v.p.y.p, .int .i64 v.q.x.n, .int .i64 v.q.x.d, .pointer v.q.x.p, .int .i64 v.q.y.n, .int .i64 v.q.y.d, .pointer v.q.y.p, .int .i64 v.r.x.n, .int .i64 v.r.x.d, .pointer v.r.x.p, .int .i64 v.r.y.n, .int .i64 v.r.y.d, .pointer v.r.y.p], .agg #[.int .i64 p.x.n, .int .i64 p.x.d, .pointer p.x.p, .int .i64 p.y.n, .int .i64 p.y.d, .pointer p.y.p]] w (Cd w (m.to (x, y)).1 (m.to (x, y)).2 100) := by
 have := h.c; have := h.f
 go_enter Tryz.func37, Tryz.ntmps37; go_wp2_with fail; refine rgn [w.heap.size + 1 + 1] [] fun hH => ?_; refine tk 0 hH ?_ (hy := fun wx hSw => by have hSx := Ex1.mk hSw; exact Hi rfl rfl (Bc Tryz.underlying100 rfl (by kernel_rfl))); refine tk 1 hH ?_; refine tk 3 hH ?_; refine tk 4 hH (st 2 fun K hK => ?_); go_simp; refine Au (Qe1 (v := v) (p := p)) ?_; intros; refine hd hK fun hH => st 5 fun K hK => ?_; go_simp; refine Au (Ln (by decide)) ?_; intros; refine hd hK fun hH => st 6 fun K hK => ?_; go_simp; refine hd hK fun hH => dn ?_; clear hH; go_wp2_with fail; refine Ac rfl Tryz.underlying98 rfl (by kernel_rfl) rfl rfl rfl ?_; exact Cd.fin rfl (by omega) rfl (by omega)
end
section
open Go.RowKit Cel
variable {k : Nat} {w : World}
theorem Qj1 {p : PV} {x y : Rat} [hx : CF w (.agg #[.int .i64 p.x.n, .int .i64 p.x.d, .pointer p.x.p]) x k] [hy : CF w (.agg #[.int .i64 p.y.n, .int .i64 p.y.d, .pointer p.y.p]) y k] (b : k ≤ 100000) : Calls Tryz.prog 187 #[.agg #[.int .i64 p.x.n, .int .i64 p.x.d, .pointer p.x.p, .int .i64 p.y.n, .int .i64 p.y.d, .pointer p.y.p]] w (Cd w (-x) (-y) k) := by
 go_enter Tryz.func187, Tryz.ntmps187; go_wp2_with fail; refine rgn [w.heap.size + 1] [] fun hH => ?_; refine tk 0 hH ?_; refine tk 1 hH ?_; refine tk 3 hH ?_; refine tk 4 hH (st 2 fun K hK => ?_); go_simp; (with_reducible refine Ab (Di (by omega)) ?_); intros; refine hd hK fun hH => st 5 fun K hK => ?_; go_simp; (with_reducible refine Ab (Di (by omega)) ?_); intros; refine hd hK fun hH => ?_; refine tk 6 hH (st 7 fun K hK => ?_); go_simp; refine hd hK fun hH => dn ?_; clear hH; go_wp2_with fail; refine Ac rfl Tryz.underlying98 rfl (by kernel_rfl) rfl rfl rfl ?_; exact Cd.fin rfl (by omega) rfl (by omega)
def Bg (m : Aff) : Aff := ⟨m.E * m.det⁻¹, -m.B * m.det⁻¹, -(m.E * m.det⁻¹ * m.C + -m.B * m.det⁻¹ * m.F), -m.D * m.det⁻¹, m.A * m.det⁻¹, -(-m.D * m.det⁻¹ * m.C + m.A * m.det⁻¹ * m.F)⟩
class AkG (W : World) (v : AW) (m : outParam Aff) (k : outParam Nat) : Prop where
 a : CF W (.agg #[.int .i64 v.p.x.n, .int .i64 v.p.x.d, .pointer v.p.x.p]) m.A k
 d : CF W (.agg #[.int .i64 v.p.y.n, .int .i64 v.p.y.d, .pointer v.p.y.p]) m.D k
 b : CF W (.agg #[.int .i64 v.q.x.n, .int .i64 v.q.x.d, .pointer v.q.x.p]) m.B k
 e : CF W (.agg #[.int .i64 v.q.y.n, .int .i64 v.q.y.d, .pointer v.q.y.p]) m.E k
 c : CF W (.agg #[.int .i64 v.r.x.n, .int .i64 v.r.x.d, .pointer v.r.x.p]) m.C k
 f : CF W (.agg #[.int .i64 v.r.y.n, .int .i64 v.r.y.d, .pointer v.r.y.p]) m.F k
def P2 (m : Aff) (k : Nat) (u : Value) (W : World) : Prop := ∃ a b c d : RV, u = .agg #[.int .i64 a.n, .int .i64 a.d, .pointer a.p, .int .i64 b.n, .int .i64 b.d, .pointer b.p, .int .i64 c.n, .int .i64 c.d, .pointer c.p, .int .i64 d.n, .int .i64 d.d, .pointer d.p, .int .i64 0, .int .i64 0, .pointer none, .int .i64 0, .int .i64 0, .pointer none] ∧ CF W (.agg #[.int .i64 a.n, .int .i64 a.d, .pointer a.p]) m.A k ∧ CF W (.agg #[.int .i64 b.n, .int .i64 b.d, .pointer b.p]) m.D k ∧ CF W (.agg #[.int .i64 c.n, .int .i64 c.d, .pointer c.p]) m.B k ∧ CF W (.agg #[.int .i64 d.n, .int .i64 d.d, .pointer d.p]) m.E k
variable {m : Aff}
instance lastAf : Last (P2 m k) := ⟨fun _ _ _ hb ⟨a, b, c, d, e, _, _, _, _⟩ => have := Kp1.mk hb; ⟨a, b, c, d, e, ii, ii, ii, ii⟩⟩
def Ym (w : World) (m : Aff) (k : Nat) (e : Ending) (w' : World) : Prop := ∃ v : AW, e = .returned (.agg #[.int .i64 v.p.x.n, .int .i64 v.p.x.d, .pointer v.p.x.p, .int .i64 v.p.y.n, .int .i64 v.p.y.d, .pointer v.p.y.p, .int .i64 v.q.x.n, .int .i64 v.q.x.d, .pointer v.q.x.p, .int .i64 v.q.y.n, .int .i64 v.q.y.d, .pointer v.q.y.p, .int .i64 v.r.x.n, .int .i64 v.r.x.d, .pointer v.r.x.p, .int .i64 v.r.y.n, .int .i64 v.r.y.d, .pointer v.r.y.p]) ∧ AkG w' v m k ∧ Below w.heap.size w w'
theorem Qia {P : Program} {f : FuncId} {args : Array Value} {K : Ending → World → Prop} (h : Calls P f args w (Ym w m k))
  (hK : ∀ w' [Kp1 w w'] (v : AW) [AkG w' v m k], K (.returned (.agg #[.int .i64 v.p.x.n, .int .i64 v.p.x.d, .pointer v.p.x.p, .int .i64 v.p.y.n, .int .i64 v.p.y.d, .pointer v.p.y.p, .int .i64 v.q.x.n, .int .i64 v.q.x.d, .pointer v.q.x.p, .int .i64 v.q.y.n, .int .i64 v.q.y.d, .pointer v.q.y.p, .int .i64 v.r.x.n, .int .i64 v.r.x.d, .pointer v.r.x.p, .int .i64 v.r.y.n, .int .i64 v.r.y.d, .pointer v.r.y.p])) w') : Calls P f args w K := by
 refine h.mono ?_
 rintro e w' ⟨v, rfl, h1, h2⟩
 exact @hK w' ⟨h2⟩ v h1
instance boxT_fr : BoxT 96 := by constructor <;> decide
theorem Qfz {v : AW} [h : Ak w v m] : Calls Tryz.prog 135 #[.agg #[.int .i64 v.p.x.n, .int .i64 v.p.x.d, .pointer v.p.x.p, .int .i64 v.p.y.n, .int .i64 v.p.y.d, .pointer v.p.y.p, .int .i64 v.q.x.n, .int .i64 v.q.x.d, .pointer v.q.x.p, .int .i64 v.q.y.n, .int .i64 v.q.y.d, .pointer v.q.y.p, .int .i64 v.r.x.n, .int .i64 v.r.x.d, .pointer v.r.x.p, .int .i64 v.r.y.n, .int .i64 v.r.y.d, .pointer v.r.y.p]] w (Ym w (Bg m) 400) := by
 have := h.a; have := h.b; have := h.c; have := h.d; have := h.e; have := h.f
 go_enter Tryz.func135, Tryz.ntmps135
 go_upto_region 2 with (first
  | (go_at_call 79; go_loud (with_reducible refine Ab (Ue (v := v)) ?_); intros)
  | (go_at_call 186; go_loud (with_reducible refine Ab (Ri (by decide)) ?_); intro w5 _ ni di pi i5)
  | (with_reducible refine A0 (t := 100) (x := .tmp 1) rfl rfl rfl (Bc Tryz.underlying100 rfl (by kernel_rfl)) ?_))
 refine Ly [] [] fun w0 ew hH => ?_
 refine tk 0 hH ?_; refine tk 1 hH ?_; refine tk 2 hH ?_; refine tk 3 hH ?_; refine tk 4 hH ?_; refine tk 5 hH ?_; refine tk 8 hH ?_; refine tk 10 hH ?_; refine tk 11 hH ?_; refine tk 12 hH ?_; refine tk 14 hH ?_; refine tk 15 hH ?_; refine tk 16 hH ?_; refine tk 18 hH ?_
 refine Jq [(6, 14), (7, 15), (9, 17), (13, 21), (17, 25), (19, 27), (20, 28), (21, 4)] (fun i => match i with | 6 => [] | 7 => [6] | 9 => [6, 7] | 13 => [9] | 17 => [13] | 19 => [13, 17] | 20 => [9, 19] | 21 => [] | _ => []) [Bf (-m.D) 22, A6 m.E (-m.D) 22, A6 (m.E * m.det⁻¹) (-m.D * m.det⁻¹) 126, Bf (-m.B) 22, A6 (-m.B) m.A 22, A6 (-m.B * m.det⁻¹) (m.A * m.det⁻¹) 126, P2 (⟨m.E * m.det⁻¹, -m.B * m.det⁻¹, 0, -m.D * m.det⁻¹, m.A * m.det⁻¹, 0⟩ : Aff) 126, Du w0 100 [.int .i64 0, .int .i64 0, .pointer none, .int .i64 0, .int .i64 0, .pointer none, .int .i64 0, .int .i64 0, .pointer none, .int .i64 0, .int .i64 0, .pointer none, .int .i64 0, .int .i64 0, .pointer none, .int .i64 0, .int .i64 0, .pointer none]] [21] 1 (by rfl) (by decide +kernel) (by decide) (by decide) (by kernel_rfl) ?_ (fun _ _ => Ex.below) hH ?_ ?_
 ·intro i hi v W h; simp only [List.mem_cons, List.not_mem_nil, or_false] at hi
  rcases hi with rfl
  all_goals exact Du.old h
 ·intro i hi f W hSw hbw hp; have kw := Kp1.mk hbw
  have kv := Gl ew (W := W)
  have kz : Kz w0 W := ⟨kv.out.size⟩
  have hSx := Ex1.mk hSw
  clear hH; simp only [List.map_cons, List.map_nil, List.mem_cons, List.not_mem_nil, or_false] at hi
  rcases hi with rfl | rfl | rfl | rfl | rfl | rfl | rfl | rfl
  ·refine ⟨_, by simp; rfl, fun K' hK => ?_⟩
   clear hp; simp only [Ai, Act.put, sA, sB, sC] at hK ⊢
   generalize f 6 = v6, f 7 = v7, f 9 = v9, f 13 = v13, f 17 = v17, f 19 = v19, f 20 = v20, f 21 = v21 at *
   go_simp; (with_reducible refine Ab (Di (by decide)) ?_); intros
   refine hK.out _ _ _ rfl (ii : Kp W _).out ?_ ?_
   ·exact Bf.fin rfl (by omega)
   ·exact fun h => absurd h (by decide)
  ·have h6 : Bf (-m.D) 22 (f 6) W := hp 6 (by decide)
   refine ⟨_, by simp; rfl, fun K' hK => ?_⟩
   clear hp; simp only [Ai, Act.put, sA, sB, sC] at hK ⊢
   generalize f 6 = v6, f 7 = v7, f 9 = v9, f 13 = v13, f 17 = v17, f 19 = v19, f 20 = v20, f 21 = v21 at *
   obtain ⟨n6, d6, p6, rfl, i6⟩ := h6; go_simp
   refine hK.out _ _ _ rfl (ii : Kp W _).out ?_ ?_
   ·exact A6.fin rfl (by omega) rfl (by omega)
   ·exact fun h => absurd h (by decide)
  ·have h6 : Bf (-m.D) 22 (f 6) W := hp 6 (by decide)
   have h7 : A6 m.E (-m.D) 22 (f 7) W := hp 7 (by decide)
   refine ⟨_, by simp; rfl, fun K' hK => ?_⟩
   clear hp; simp only [Ai, Act.put, sA, sB, sC] at hK ⊢
   generalize f 6 = v6, f 7 = v7, f 9 = v9, f 13 = v13, f 17 = v17, f 19 = v19, f 20 = v20, f 21 = v21 at *
   obtain ⟨n6, d6, p6, rfl, i6⟩ := h6; obtain ⟨v7, rfl, i7, j7⟩ := h7; go_simp; (with_reducible refine Au (L8 (z := m.det⁻¹) (k := 22) (j := 102) (by decide)) ?_); intros
   refine hK.out _ _ _ rfl (ii : Kp W _).out ?_ ?_
   ·exact A6.fin rfl (by omega) rfl (by omega)
   ·exact fun h => absurd h (by decide)
  ·have h9 : A6 (m.E * m.det⁻¹) (-m.D * m.det⁻¹) 126 (f 9) W := hp 9 (by decide)
   refine ⟨_, by simp; rfl, fun K' hK => ?_⟩
   clear hp; simp only [Ai, Act.put, sA, sB, sC] at hK ⊢
   generalize f 6 = v6, f 7 = v7, f 9 = v9, f 13 = v13, f 17 = v17, f 19 = v19, f 20 = v20, f 21 = v21 at *
   obtain ⟨v9, rfl, i9, j9⟩ := h9; go_simp; (with_reducible refine Ab (Di (by decide)) ?_); intros
   refine hK.out _ _ _ rfl (ii : Kp W _).out ?_ ?_
   ·exact Bf.fin rfl (by omega)
   ·exact fun h => absurd h (by decide)
  ·have h13 : Bf (-m.B) 22 (f 13) W := hp 13 (by decide)
   refine ⟨_, by simp; rfl, fun K' hK => ?_⟩
   clear hp; simp only [Ai, Act.put, sA, sB, sC] at hK ⊢
   generalize f 6 = v6, f 7 = v7, f 9 = v9, f 13 = v13, f 17 = v17, f 19 = v19, f 20 = v20, f 21 = v21 at *
   obtain ⟨n13, d13, p13, rfl, i13⟩ := h13; go_simp
   refine hK.out _ _ _ rfl (ii : Kp W _).out ?_ ?_
   ·exact A6.fin rfl (by omega) rfl (by omega)
   ·exact fun h => absurd h (by decide)
  ·have h13 : Bf (-m.B) 22 (f 13) W := hp 13 (by decide)
   have h17 : A6 (-m.B) m.A 22 (f 17) W := hp 17 (by decide)
   refine ⟨_, by simp; rfl, fun K' hK => ?_⟩
   clear hp; simp only [Ai, Act.put, sA, sB, sC] at hK ⊢
   generalize f 6 = v6, f 7 = v7, f 9 = v9, f 13 = v13, f 17 = v17, f 19 = v19, f 20 = v20, f 21 = v21 at *
   obtain ⟨n13, d13, p13, rfl, i13⟩ := h13; obtain ⟨v17, rfl, i17, j17⟩ := h17; go_simp; (with_reducible refine Au (L8 (z := m.det⁻¹) (k := 22) (j := 102) (by decide)) ?_); intros
   refine hK.out _ _ _ rfl (ii : Kp W _).out ?_ ?_
   ·exact A6.fin rfl (by omega) rfl (by omega)
   ·exact fun h => absurd h (by decide)
  ·have h9 : A6 (m.E * m.det⁻¹) (-m.D * m.det⁻¹) 126 (f 9) W := hp 9 (by decide)
   have h19 : A6 (-m.B * m.det⁻¹) (m.A * m.det⁻¹) 126 (f 19) W := hp 19 (by decide)
   refine ⟨_, by simp; rfl, fun K' hK => ?_⟩
   clear hp; simp only [Ai, Act.put, sA, sB, sC] at hK ⊢
   generalize f 6 = v6, f 7 = v7, f 9 = v9, f 13 = v13, f 17 = v17, f 19 = v19, f 20 = v20, f 21 = v21 at *
   obtain ⟨v9, rfl, i9, j9⟩ := h9; obtain ⟨v19, rfl, i19, j19⟩ := h19; go_simp
   refine hK.out _ _ _ rfl (ii : Kp W _).out ?_ ?_
   ·exact ⟨⟨_, _, _⟩, ⟨_, _, _⟩, ⟨_, _, _⟩, ⟨_, _, _⟩, rfl, ii, ii, ii, ii⟩
   ·exact fun h => absurd h (by decide)
  ·refine ⟨_, by simp; rfl, fun K' hK => ?_⟩
   clear hp; simp only [Ai, Act.put, sA, sB, sC] at hK ⊢
   generalize f 6 = v6, f 7 = v7, f 9 = v9, f 13 = v13, f 17 = v17, f 19 = v19, f 20 = v20, f 21 = v21 at *
   go_simp
   refine hK.out _ _ _ rfl (ii : Kp W _).out ?_ ?_
   ·exact Du.fin
   ·exact fun _ => ⟨_, rfl, Nat.le_refl _⟩
 ·intro f W hSw hbw hf hne; have kw := Kp1.mk hbw
  have hSx := Ex1.mk hSw
  clear hH
  have kv := Gl ew (W := W)
  have kz : Kz w0 W := ⟨kv.out.size⟩
  have h6 : Bf (-m.D) 22 (f 6) W := hf 6 (by decide)
  have h7 : A6 m.E (-m.D) 22 (f 7) W := hf 7 (by decide)
  have h9 : A6 (m.E * m.det⁻¹) (-m.D * m.det⁻¹) 126 (f 9) W := hf 9 (by decide)
  have h13 : Bf (-m.B) 22 (f 13) W := hf 13 (by decide)
  have h17 : A6 (-m.B) m.A 22 (f 17) W := hf 17 (by decide)
  have h19 : A6 (-m.B * m.det⁻¹) (m.A * m.det⁻¹) 126 (f 19) W := hf 19 (by decide)
  have h20 : P2 (⟨m.E * m.det⁻¹, -m.B * m.det⁻¹, 0, -m.D * m.det⁻¹, m.A * m.det⁻¹, 0⟩ : Aff) 126 (f 20) W := hf 20 (by decide)
  have h21 : Du w0 100 [.int .i64 0, .int .i64 0, .pointer none, .int .i64 0, .int .i64 0, .pointer none, .int .i64 0, .int .i64 0, .pointer none, .int .i64 0, .int .i64 0, .pointer none, .int .i64 0, .int .i64 0, .pointer none, .int .i64 0, .int .i64 0, .pointer none] (f 21) W := hf 21 (by decide)
  clear hf hne; simp only [Ai, lset, List.map_cons, List.map_nil, Act.put, List.setIfInBounds_toArray, List.set_cons_zero, List.set_cons_succ]
  generalize f 6 = v6, f 7 = v7, f 9 = v9, f 13 = v13, f 17 = v17, f 19 = v19, f 20 = v20, f 21 = v21 at *
  obtain ⟨n6, d6, p6, rfl, i6⟩ := h6; obtain ⟨v7, rfl, i7, j7⟩ := h7; obtain ⟨v9, rfl, i9, j9⟩ := h9; obtain ⟨n13, d13, p13, rfl, i13⟩ := h13; obtain ⟨v17, rfl, i17, j17⟩ := h17; obtain ⟨v19, rfl, i19, j19⟩ := h19; obtain ⟨a20, b20, c20, d20, rfl, ia20, ib20, ic20, id20⟩ := h20; obtain ⟨b21, rfl, i21, j21, k21⟩ := h21
  have nw21 := Jl ew j21
  have gg21 := Jg ew k21
  have gl21 : Ge w b21 := ⟨by have h2 := j21.out; rw [ew.out] at h2; exact Nat.le_trans (ii : Kp w _).out.size h2⟩
  have hH := hSw
  refine st 22 fun K hK => ?_
  try rw [if_pos (by rfl)]
  refine Bs 100 (.tmp 4) (.tmp 28) rfl rfl rfl (l' := [.int .i64 a20.n, .int .i64 a20.d, .pointer a20.p, .int .i64 b20.n, .int .i64 b20.d, .pointer b20.p, .int .i64 c20.n, .int .i64 c20.d, .pointer c20.p, .int .i64 d20.n, .int .i64 d20.d, .pointer d20.p, .int .i64 0, .int .i64 0, .pointer none, .int .i64 0, .int .i64 0, .pointer none]) rfl (by kernel_rfl) (by rfl) (AW.one ⟨⟨a20, b20⟩, ⟨c20, d20⟩, ⟨⟨0, 0, none⟩, ⟨0, 0, none⟩⟩⟩) (w := w) ?_
  intro W10 _ _ b10 _ _; refine hd hK fun hH => dn ?_; clear hH
  skip
  go_wp2_with (first
   | (with_reducible refine A0 (t := 100) (x := .tmp 4) rfl rfl rfl (Bc Tryz.underlying100 rfl (by kernel_rfl)) ?_)
   | (go_at_call 81; go_loud (with_reducible refine Au (Ug (v := ⟨⟨a20, b20⟩, ⟨c20, d20⟩, ⟨⟨0, 0, none⟩, ⟨0, 0, none⟩⟩⟩) (m := (⟨m.E * m.det⁻¹, -m.B * m.det⁻¹, 0, -m.D * m.det⁻¹, m.A * m.det⁻¹, 0⟩ : Aff)) (p := v.r) (ka := 126) (kp := 22) (by decide)) ?_); intro w11 _ ne de pe nf df pf ie jf)
   | (go_at_call 187; go_loud (with_reducible refine Au (Qj1 (p := ⟨⟨ne, de, pe⟩, ⟨nf, df, pf⟩⟩) (k := 303) (by decide)) ?_); intro w12 _ ng dg pg nh dh ph ig jh))
  refine Ac rfl Tryz.underlying100 rfl (by kernel_rfl) rfl rfl rfl ?_; exact ⟨⟨⟨a20, b20⟩, ⟨c20, d20⟩, ⟨⟨ng, dg, pg⟩, ⟨nh, dh, ph⟩⟩⟩, rfl, ⟨CF.cast (k := 126) ii rfl (by decide), CF.cast (k := 126) ii rfl (by decide), CF.cast (k := 126) ii rfl (by decide), CF.cast (k := 126) ii rfl (by decide), CF.cast (k := 303) ii rfl (by decide), CF.cast (k := 303) ii rfl (by decide)⟩, (ii : Kp w _).out⟩
end
section
open Go.RowKit Cel
class Asl (W : outParam World) (W2 : World) : Prop where out : ∃ row : Option Nat, W.grownBy W2 row ∧ ∀ k, row = some k → ∃ a n c, W.cell? ⟨k, 0, none⟩ = some (.slice a n c)
def noS : Value → Bool
 | .slice .. => false
 | _ => true
class Hd0 (xs : List Value) : Prop where out : ∀ u, xs[0]? = some u → noS u = true
variable {W W2 w0 w1 : World} {bt g i k n sz : Nat} {xs : List Value}
theorem Sl.asl' {v : Value} (h : Sl W v n xs w0) (k : Asl W W2) (hx : Hd0 xs) : Sl W2 v n xs w0 := by
 obtain ⟨row, hg, hr⟩ := k.out
 refine ⟨?_, h.lt, fun g e => Nat.lt_of_lt_of_le (h.ltW g e) hg.size⟩
 rcases h.out with e | ⟨g, c, rfl, hc, hcell⟩
 ·exact .inl e
 ·refine .inr ⟨g, c, rfl, hc, fun j u hu => ?_⟩
  have hne : row ≠ some g := fun e => by
   obtain ⟨a, m, c', h1⟩ := hr g e
   cases xs with
   | nil => simp at hu
   | cons y xs =>
    have h2 := hcell 0 y rfl
    rw [h1] at h2
    injection h2 with h2
    have h3 := hx.out y rfl
    rw [← h2] at h3; exact absurd h3 (by simp [noS])
  rw [Gw (hg.block g (h.ltW g rfl) (fun e => hne e.symm))]; exact hcell j u hu
instance (priority := low) Sl.asl {v : Value} [k : Asl W W2] [hx : Hd0 xs] [h : Sl W v n xs w0] : Sl W2 v n xs w0 := h.asl' k hx
instance Hd0.f {V : List FV} : Hd0 (Ax V) := ⟨fun u h => by
 cases V with
 | nil => simp [Ax] at h
 | cons x V => injection h with h; subst h; rfl⟩
instance Hd0.a {V : List AV} : Hd0 (Af V) := ⟨fun u h => by
 cases V with
 | nil => simp [Af] at h
 | cons x V => injection h with h; subst h; rfl⟩
instance Hd0.w {V : List GW} : Hd0 (rowW V) := ⟨fun u h => by
 cases V with
 | nil => simp [rowW] at h
 | cons x V => injection h with h; subst h; rfl⟩
def rg (R : List (List (Rat × Rat))) (i : Nat) : List (Rat × Rat) := R.getD i []
variable {R : List (List (Rat × Rat))}
theorem Jy (h : i < R.length) : rg R i = R[i] := C7 h
variable {L : List (Rat × Rat)}
theorem Q4 (h : i < R.length) : rg (R ++ [L]) i = rg R i := by
 rw [Jy h, Jy (by simp; omega), List.getElem_append_left h]
theorem Pq : rg (R ++ [L]) R.length = L := by
 rw [Jy (by simp)]; simp
structure YV where
 a : Option Addr
 c : Nat
 V : List AV
def YV.v (y : YV) : Value := .slice y.a y.V.length y.c
def YV.l (y : YV) : List Value := [y.v]
def Bt (U : List YV) : List Value := U.flatMap YV.l
theorem Oc (U : List YV) (e : YV) : Bt (U ++ [e]) = Bt U ++ e.l := Fp _ _ _
theorem YV.nd (e : YV) : ∀ u ∈ e.l, Am u = false := by intro u hu; simp only [YV.l, List.mem_singleton] at hu; subst hu; rfl
theorem YV.one (e : YV) : ∀ u ∈ e.l, u.oneCell' = true := by intro u hu; simp only [YV.l, List.mem_singleton] at hu; subst hu; rfl
theorem Qb (U : List YV) : ∀ u ∈ Bt U, Am u = false := Fz YV.nd U
theorem Pf (U : List YV) : ∀ u ∈ Bt U, ∃ a n c, u = .slice a n c := by
 intro u hu; obtain ⟨e, _, h⟩ := List.mem_flatMap.1 hu; simp only [YV.l, List.mem_singleton] at h; exact ⟨_, _, _, h⟩
def yv (U : List YV) (i : Nat) : YV := U.getD i ⟨none, 0, []⟩
variable {U : List YV}
theorem Ht (h : i < U.length) : yv U i = U[i] := C7 h
@[go_sem] theorem Qnu [h : At W g (Bt U) w0] (hk : k < U.length) : W.cell? ⟨g, k, none⟩ = some (.slice (yv U k).a (yv U k).V.length (yv U k).c) := by
 rw [Ht hk]
 exact h.out _ _ (by
  have e := F9 (f := YV.l) (sz := 1) (fun _ => rfl) U k 0 hk (by decide)
  rw [Nat.mul_one, Nat.add_zero] at e
  rw [Bt, e]; rfl)
structure XV where
 a : Option Addr
 c : Nat
 V : List FV
def XV.v (y : XV) : Value := .slice y.a y.V.length y.c
def XV.l (y : XV) : List Value := [y.v]
def Fy (U : List XV) : List Value := U.flatMap XV.l
theorem Qgf (U : List XV) (e : XV) : Fy (U ++ [e]) = Fy U ++ e.l := Fp _ _ _
theorem XV.nd (e : XV) : ∀ u ∈ e.l, Am u = false := by intro u hu; simp only [XV.l, List.mem_singleton] at hu; subst hu; rfl
theorem XV.one (e : XV) : ∀ u ∈ e.l, u.oneCell' = true := by intro u hu; simp only [XV.l, List.mem_singleton] at hu; subst hu; rfl
theorem Qlc (U : List XV) : ∀ u ∈ Fy U, Am u = false := Fz XV.nd U
theorem Qf5 (U : List XV) : ∀ u ∈ Fy U, ∃ a n c, u = .slice a n c := by
 intro u hu; obtain ⟨e, _, h⟩ := List.mem_flatMap.1 hu; simp only [XV.l, List.mem_singleton] at h; exact ⟨_, _, _, h⟩
def xv (U : List XV) (i : Nat) : XV := U.getD i ⟨none, 0, []⟩
theorem Md {U : List XV} (h : i < U.length) : xv U i = U[i] := C7 h
@[go_sem] theorem Qnx {U : List XV} [h : At W g (Fy U) w0] (hk : k < U.length) : W.cell? ⟨g, k, none⟩ = some (.slice (xv U k).a (xv U k).V.length (xv U k).c) := by
 rw [Md hk]
 exact h.out _ _ (by
  have e := F9 (f := XV.l) (sz := 1) (fun _ => rfl) U k 0 hk (by decide)
  rw [Nat.mul_one, Nat.add_zero] at e
  rw [Fy, e]; rfl)
class RsA (W : World) (U : List YV) (R : outParam (List (List (Rat × Rat)))) (k : outParam Nat) (w0 : outParam World) : Prop where
 len : U.length = R.length
 s : ∀ i, i < U.length → Sl W (.slice (yv U i).a (yv U i).V.length (yv U i).c) (yv U i).V.length (Af (yv U i).V) w0
 p : ∀ i, i < U.length → PsA W (yv U i).V (rg R i) k
variable {o : Obj}
instance RsA.al  [h : RsA W U R k w0] : RsA (W.alloc o) U R k w0 := ⟨h.len, fun i hi => by have := h.s i hi; exact ii, fun i hi => by have := h.p i hi; exact ii⟩
instance RsA.dr   [h : RsA W U R k w0] : RsA W.drew U R k w0 := ⟨h.len, fun i hi => by have := h.s i hi; exact ii, fun i hi => by have := h.p i hi; exact ii⟩
instance (priority := low) RsA.kp [kb : Kp1 W W2] [h : RsA W U R k w0] : RsA W2 U R k w0 := ⟨h.len, fun i hi => by have := h.s i hi; exact ii, fun i hi => by have := h.p i hi; exact ii⟩
instance (priority := low) RsA.asl [k1 : Asl W W2] [k2 : Apn W W2] [h : RsA W U R k w0] : RsA W2 U R k w0 := ⟨h.len, fun i hi => by have := h.s i hi; exact ii, fun i hi => by have := h.p i hi; exact ii⟩
instance RsA.at1 [h : RsA W U R k w0] [l : LtN i U.length] : Sl W (.slice (yv U i).a (yv U i).V.length (yv U i).c) (yv U i).V.length (Af (yv U i).V) w0 := h.s i l.out
instance RsA.at2 [h : RsA W U R k w0] [l : LtN i U.length] : PsA W (yv U i).V (rg R i) k := h.p i l.out
theorem RsA.here (h : RsA W U R k w0) : RsA W U R k W := ⟨h.len, fun i hi => (h.s i hi).here, h.p⟩
theorem RsA.nil : RsA W [] [] k W := ⟨rfl, fun i hi => by simp at hi, fun i hi => by simp at hi⟩
theorem RsA.snoc {a : Option Addr} {c : Nat} {V : List AV} (h : RsA W U R k w0) (hs : Sl W (.slice a V.length c) V.length (Af V) w1) (hp : PsA W V L k) : RsA W (U ++ [⟨a, c, V⟩]) (R ++ [L]) k W := by
 refine ⟨by simp [h.len], fun i hi => ?_, fun i hi => ?_⟩
 all_goals
  rcases Nat.lt_or_ge i U.length with hlt | hge
  ·have e1 : yv (U ++ [⟨a, c, V⟩]) i = yv U i := by rw [Ht hi, Ht hlt, List.getElem_append_left hlt]
   rw [e1]
   first | exact (h.s i hlt).here | (rw [Q4 (by rw [← h.len]; exact hlt)]; exact h.p i hlt)
  ·have hi' : i = U.length := by simp at hi; omega
   subst hi'
   have e1 : yv (U ++ [⟨a, c, V⟩]) U.length = ⟨a, c, V⟩ := by rw [Ht hi]; simp
   rw [e1]
   first | exact hs.here | (rw [h.len, Pq]; exact hp)
class RsQ (W : World) (U : List YV) (R : outParam (List (List (Rat × Rat)))) (k : outParam Nat) (w0 : outParam World) : Prop where
 len : U.length = R.length
 s : ∀ i, i < U.length → Sl W (.slice (yv U i).a (yv U i).V.length (yv U i).c) (yv U i).V.length (Af (yv U i).V) w0
 p : ∀ i, i < U.length → PsQ W (yv U i).V (rg R i) k
instance RsQ.al  [h : RsQ W U R k w0] : RsQ (W.alloc o) U R k w0 := ⟨h.len, fun i hi => by have := h.s i hi; exact ii, fun i hi => by have := h.p i hi; exact ii⟩
instance (priority := low) RsQ.kp [kb : Kp1 W W2] [h : RsQ W U R k w0] : RsQ W2 U R k w0 := ⟨h.len, fun i hi => by have := h.s i hi; exact ii, fun i hi => by have := h.p i hi; exact ii⟩
instance (priority := low) RsQ.asl [k1 : Asl W W2] [k2 : Apn W W2] [h : RsQ W U R k w0] : RsQ W2 U R k w0 := ⟨h.len, fun i hi => by have := h.s i hi; exact ii, fun i hi => by have := h.p i hi; exact ii⟩
instance RsQ.at1 [h : RsQ W U R k w0] [l : LtN i U.length] : Sl W (.slice (yv U i).a (yv U i).V.length (yv U i).c) (yv U i).V.length (Af (yv U i).V) w0 := h.s i l.out
instance RsQ.at2 [h : RsQ W U R k w0] [l : LtN i U.length] : PsQ W (yv U i).V (rg R i) k := h.p i l.out
theorem RsQ.here (h : RsQ W U R k w0) : RsQ W U R k W := ⟨h.len, fun i hi => (h.s i hi).here, h.p⟩
theorem RsQ.nil : RsQ W [] [] k W := ⟨rfl, fun i hi => by simp at hi, fun i hi => by simp at hi⟩
theorem RsQ.snoc {a : Option Addr} {c : Nat} {V : List AV} (h : RsQ W U R k w0) (hs : Sl W (.slice a V.length c) V.length (Af V) w1) (hp : PsQ W V L k) : RsQ W (U ++ [⟨a, c, V⟩]) (R ++ [L]) k W := by
 refine ⟨by simp [h.len], fun i hi => ?_, fun i hi => ?_⟩
 all_goals
  rcases Nat.lt_or_ge i U.length with hlt | hge
  ·have e1 : yv (U ++ [⟨a, c, V⟩]) i = yv U i := by rw [Ht hi, Ht hlt, List.getElem_append_left hlt]
   rw [e1]
   first | exact (h.s i hlt).here | (rw [Q4 (by rw [← h.len]; exact hlt)]; exact h.p i hlt)
  ·have hi' : i = U.length := by simp at hi; omega
   subst hi'
   have e1 : yv (U ++ [⟨a, c, V⟩]) U.length = ⟨a, c, V⟩ := by rw [Ht hi]; simp
   rw [e1]
   first | exact hs.here | (rw [h.len, Pq]; exact hp)
class RsF (W : World) (U : List XV) (R : outParam (List (List (Rat × Rat)))) (k : outParam Nat) (w0 : outParam World) : Prop where
 len : U.length = R.length
 s : ∀ i, i < U.length → Sl W (.slice (xv U i).a (xv U i).V.length (xv U i).c) (xv U i).V.length (Ax (xv U i).V) w0
 p : ∀ i, i < U.length → PsF W (xv U i).V (rg R i) k
instance RsF.al {U : List XV}  [h : RsF W U R k w0] : RsF (W.alloc o) U R k w0 := ⟨h.len, fun i hi => by have := h.s i hi; exact ii, fun i hi => by have := h.p i hi; exact ii⟩
instance (priority := low) RsF.kp {U : List XV} [kb : Kp1 W W2] [h : RsF W U R k w0] : RsF W2 U R k w0 := ⟨h.len, fun i hi => by have := h.s i hi; exact ii, fun i hi => by have := h.p i hi; exact ii⟩
instance (priority := low) RsF.asl {U : List XV} [k1 : Asl W W2] [k2 : Apn W W2] [h : RsF W U R k w0] : RsF W2 U R k w0 := ⟨h.len, fun i hi => by have := h.s i hi; exact ii, fun i hi => by have := h.p i hi; exact ii⟩
instance RsF.at1 {U : List XV} [h : RsF W U R k w0] [l : LtN i U.length] : Sl W (.slice (xv U i).a (xv U i).V.length (xv U i).c) (xv U i).V.length (Ax (xv U i).V) w0 := h.s i l.out
instance RsF.at2 {U : List XV} [h : RsF W U R k w0] [l : LtN i U.length] : PsF W (xv U i).V (rg R i) k := h.p i l.out
theorem RsF.nil : RsF W [] [] k W := ⟨rfl, fun i hi => by simp at hi, fun i hi => by simp at hi⟩
theorem RsF.snoc {U : List XV} {a : Option Addr} {c : Nat} {V : List FV} (h : RsF W U R k w0) (hs : Sl W (.slice a V.length c) V.length (Ax V) w1) (hp : PsF W V L k) : RsF W (U ++ [⟨a, c, V⟩]) (R ++ [L]) k W := by
 refine ⟨by simp [h.len], fun i hi => ?_, fun i hi => ?_⟩
 all_goals
  rcases Nat.lt_or_ge i U.length with hlt | hge
  ·have e1 : xv (U ++ [⟨a, c, V⟩]) i = xv U i := by rw [Md hi, Md hlt, List.getElem_append_left hlt]
   rw [e1]
   first | exact (h.s i hlt).here | (rw [Q4 (by rw [← h.len]; exact hlt)]; exact h.p i hlt)
  ·have hi' : i = U.length := by simp at hi; omega
   subst hi'
   have e1 : xv (U ++ [⟨a, c, V⟩]) U.length = ⟨a, c, V⟩ := by rw [Md hi]; simp
   rw [e1]
   first | exact hs.here | (rw [h.len, Pq]; exact hp)
variable {Q : Exit → Act → World → Prop} {e : TypeId} {ops : Array Oper} {rest : List Oper} {z : Value}
theorem Qix {o : Oper} {a : Act} (hg : o.guard = none) (s x : Operand) (t : TypeId)
  (hop : o.op = .call { callee := .builtin .append, args := #[s, x], argTypes := #[t, t] }) (ht : Tryz.prog.underlying t = some (.slice e))
  (hi : (Tryz.prog.info? e).map (fun i => (i.zero, i.size, i.bytes)) = some (some z, sz, bt)) (hzs : z.cells.size = sz) (hsz : 0 < sz) (hbt : bt ≤ 1000) (hz0 : ∀ u ∈ z.cells.toList, Am u = false) (he : BoxT e) {v : Value} {base : Nat} (hs : a.eval s = v) [hr : Rn W v e sz n xs base w0]
  (hnx : ∀ u ∈ xs, Am u = false) (hv0 : ∀ k, v.ownBlock = some k → ∃ a n c, W.cell? ⟨k, 0, none⟩ = some (.slice a n c)) {ad : Addr} {m c : Nat} {l : List Value} (hx : a.eval x = .slice (some ad) m c) (hb : ∀ j u, l[j]? = some u → W.cell? (ad.add j) = some u) (hl : l.length = m * sz) (h1 : ∀ u ∈ l, u.oneCell' = true) (hnl : ∀ u ∈ l, Am u = false) (hm : 0 < m) (hn : n + m ≤ 1000000)
  (hK : ∀ g c W' [Ap1 W W' base w0] [Apn W W'] [Asl W W'] [Rn W' (.slice (some ⟨g, 0, none⟩) (n + m) c) e sz (n + m) (xs ++ l) base W'], wpList Tryz.prog ops Q rest (a.put o.dst (.slice (some ⟨g, 0, none⟩) (n + m) c)) W') :
  wpList Tryz.prog ops Q (o :: rest) a W := by
 obtain ⟨i0, hi0⟩ : ∃ i0, Tryz.prog.info? e = some i0 := by
  cases h : Tryz.prog.info? e with
  | none => rw [h] at hi; cases hi
  | some i0 => exact ⟨i0, rfl⟩
 rw [hi0] at hi; simp only [Option.map_some, Option.some.injEq, Prod.mk.injEq] at hi; obtain ⟨hz, hsz', hbt'⟩ := hi
 have hby : (n + m) * bt ≤ 140737488355328 := by
  have : (n + m) * bt ≤ 1000000 * 1000 := Nat.mul_le_mul hn hbt
  omega
 have hmx : n + m ≤ maxLen := by unfold maxLen; omega
 refine wpList_plain hg fun K hKK => ?_
 obtain ⟨v', w', hrun, h2, h3, h4⟩ := run_append_own (P := Tryz.prog) W base t o.type e i0 z sz bt ht hi0 hz hsz' hbt' hzs hsz v n xs hr.rw'.out ad m c l hl hb h1 hmx hby hr.rw'.hb
 have hsoft := J7 (P := Tryz.prog) W t o.type e i0 z ht hi0 hz he (base := base) (by rw [hsz']; exact hr.rw'.out) hr.nd hnx ad m c l (by rw [hsz']; exact hl) hb h1 hnl hz0 hmx (by rw [hbt']; exact hby) hrun
 unfold Oper.wp execOp
 simp only [hop, resolve, invoke, builtin, Sem.run_bind, Sem.run_pure, Result.andThen_ok, List.map_toArray, List.map_cons, List.map_nil, hs, hx, hrun]
 have hne : v' ≠ .slice none 0 0 := fun e => by have := (h4.1 e).2; omega
 rcases h2.2 with ⟨e', _⟩ | ⟨g, cap, cur, e', _⟩
 ·exact absurd e' hne
 ·subst e'
  have i1 : Ap1 W w' base w0 := ⟨⟨_, h3, fun k hk => ⟨(hr.rw'.out.lt k hk).1, hr.rw'.lt k hk⟩⟩⟩
  have i2 : Apn W w' := ⟨⟨_, h3, hr.nd⟩⟩
  have i3 : Rn w' (.slice (some ⟨g, 0, none⟩) (n + m) cap) e sz (n + m) (xs ++ l) base w' := ⟨Rw.mk1 h2 (Nat.le_trans hr.rw'.hb h3.size), hsoft⟩
  exact hKK _ _ (@hK g cap w' i1 i2 ⟨⟨_, h3, hv0⟩⟩ i3)
theorem Hp {o : Oper} {a : Act} (hg : o.guard = none) (s x : Operand) (t : TypeId)
  (hop : o.op = .call { callee := .builtin .append, args := #[s, x], argTypes := #[t, t] }) (ht : Tryz.prog.underlying t = some (.slice e))
  (hi : (Tryz.prog.info? e).map (fun i => (i.zero, i.size, i.bytes)) = some (some z, sz, bt)) (hzs : z.cells.size = sz) (hsz : 0 < sz) (hbt : bt ≤ 1000) (hz0 : ∀ u ∈ z.cells.toList, Am u = false) (he : BoxT e) {v : Value} {base : Nat} (hs : a.eval s = v) [hr : Rn W v e sz n xs base w0]
  (hnx : ∀ u ∈ xs, Am u = false) (hv0 : ∀ k, v.ownBlock = some k → ∃ a n c, W.cell? ⟨k, 0, none⟩ = some (.slice a n c)) {q : Nat} {ety : TypeId} {l : List Value} (hx : a.eval x = .slice (some ⟨q, 0, none⟩) 1 1) [hb : Bx W q ety l] (hl : l.length = sz) (h1 : ∀ u ∈ l, u.oneCell' = true) (hnl : ∀ u ∈ l, Am u = false) (hn : n + 1 ≤ 1000000)
  (hK : ∀ g c W' [Ap1 W W' base w0] [Apn W W'] [Asl W W'] [Rn W' (.slice (some ⟨g, 0, none⟩) (n + 1) c) e sz (n + 1) (xs ++ l) base W'], wpList Tryz.prog ops Q rest (a.put o.dst (.slice (some ⟨g, 0, none⟩) (n + 1) c)) W') :
  wpList Tryz.prog ops Q (o :: rest) a W :=
 Qix hg s x t hop ht hi hzs hsz hbt hz0 he hs hnx hv0 hx (fun j u hu => by
  have hadd : (⟨q, 0, none⟩ : Addr).add j = ⟨q, j, none⟩ := by unfold Addr.add; split <;> simp_all
  rw [hadd, B8]; exact hu) (by omega) h1 hnl (by omega) hn hK
theorem Jk {v : Value} {base : Nat} (h : Rn W v e 1 n xs base w0) (hx : ∀ u ∈ xs, ∃ a n c, u = .slice a n c) (h0 : n = 0 → v = .slice none 0 0) : ∀ k, v.ownBlock = some k → ∃ a n c, W.cell? ⟨k, 0, none⟩ = some (.slice a n c) := by
 intro k hk
 have hl := h.rw'.out.1
 cases n with
 | zero => rw [h0 rfl] at hk; cases hk
 | succ n =>
  cases xs with
  | nil => simp at hl
  | cons u xs =>
   obtain ⟨a, m, c, rfl⟩ := hx u (by simp); obtain ⟨a', c', rfl⟩ := h.slice
   cases a' with
   | none => cases hk
   | some g =>
    rcases h.rw'.out.2 with ⟨e1, _⟩ | ⟨g', _, _, e1, _⟩
    ·cases e1
    ·cases e1
     cases hk
     exact ⟨a, m, c, (Rn.at h).out 0 _ rfl⟩
end
section
open Go.RowKit Cel
variable {P : Program} {v : Value}
theorem Qii (w : World) (t ty e : TypeId) (i : TypeInfo) (z : Value) (ht : P.underlying t = some (.slice e)) (hi : P.info? e = some i) (hz : i.zero = some z)
  {base : Nat} {n : Nat} {xs : List Value} (hown : w.ownsRow base e i.size v n xs)
  (a : Addr) (m c : Nat) (news : List Value) (hl : news.length = m * i.size) (hnews : ∀ j u, news[j]? = some u → w.cell? (a.add j) = some u) (h1 : ∀ u ∈ news, u.oneCell' = true)
  (hm : 0 < m) (h63 : n + m ≤ maxLen) (hbytes : (n + m) * i.bytes ≤ 140737488355328) {v' : Value} {w' : World}
  (hr : (Builtin.append_ #[t, t] ty #[v, .slice (some a) m c]).run P w = .ok v' w') : ∀ g, v'.ownBlock = some g → v.ownBlock = some g ∨ w.heap.size ≤ g := by
 have hsmall : n + m ≤ 9223372036854775807 := by simp only [maxLen] at h63; omega
 rcases hown.2 with ⟨rfl, rfl⟩ | ⟨g, cap, cur, rfl, hbg, hg, hnc, hcm, hcs, htake⟩
 ·have hx0 : xs = [] := List.eq_nil_of_length_eq_zero (by simpa using hown.1)
  subst hx0
  have h2 := run_append_nil (P := P) w t ty e i z ht hi hz a m c news hl hnews (by omega) (by omega) (by have hb := hbytes; simp only [Nat.zero_add] at hb; omega)
  rw [h2] at hr
  injection hr with e1 e2
  subst e1; subst e2
  intro g eg; simp only [Value.ownBlock, Option.some.injEq] at eg; exact .inr (by omega)
 ·by_cases hroom : n + m ≤ cap
  ·have hfit : n * i.size + news.length ≤ cur.size := by rw [hl, hcs, ← Nat.add_mul]; exact Nat.mul_le_mul_right _ hroom
   have h2 := run_append_room (P := P) w t ty e i ht hi g n cap cur hg a m c news hl hnews h1 hroom hfit
   rw [h2] at hr
   injection hr with e1 e2
   subst e1; subst e2
   exact fun g' eg => .inl eg
  ·have holds : ∀ j u, xs[j]? = some u → w.cell? ((⟨g, 0, none⟩ : Addr).add j) = some u := hown.cells (g := g) rfl
   have h2 := run_append_grow (P := P) w t ty e i z ht hi hz ⟨g, 0, none⟩ n cap xs hown.1 holds a m c news hl hnews (by omega) (by omega) (growslice_fits (by omega) hbytes)
   rw [h2] at hr
   injection hr with e1 e2
   subst e1; subst e2
   intro g' eg; simp only [Value.ownBlock, Option.some.injEq] at eg; exact .inr (by omega)
theorem Qfk (w : World) (t ty e : TypeId) (i : TypeInfo) (ht : P.underlying t = some (.slice e)) (hi : P.info? e = some i) (b : Option Addr) (n cap : Nat) (hn : n ≤ cap) (ax : Option Addr) (c : Nat) :
  (Builtin.append_ #[t, t] ty #[.slice b n cap, .slice ax 0 c]).run P w = .ok (.slice b n cap) w := by
 have hl : ∀ (x : Addr), (loadCells x 0).run P w = .ok #[] w := fun x => by simpa using run_loadCells_list (P := P) w x [] (by simp)
 cases b <;> cases ax <;> simp [Builtin.append_, run_underlying ht, sizeOf, typeInfo, hi, Builtin.lenOf, Builtin.firstCells, hn, hl, storeCells]
theorem gbr (W : World) {row : Option Nat} : W.grownBy W row := ⟨rfl, rfl, rfl, Nat.le_refl _, fun _ _ _ => rfl⟩
theorem T5 {W w0 w1 w2 : World} {ops : Array Oper} {rest : List Oper} {o : Oper} {a : Act} {Q : Exit → Act → World → Prop} (hg : o.guard = none) (s x : Operand)
  (hop : o.op = .call { callee := .builtin .append, args := #[s, x], argTypes := #[108, 108] }) {r : Value} {L R : List GW} {base : Nat} (hs : a.eval s = v) (hL : Rn W v 165 17 L.length (rowW L) base w0) (hR : Rn W r 165 17 R.length (rowW R) base w1)
  (hd : ∀ g, v.ownBlock = some g → r.ownBlock ≠ some g) {ax : Option Addr} {m c : Nat} (hx : a.eval x = .slice ax m c) {D : List GW} (hD : Sl W (.slice ax m c) D.length (rowW D) w2) (hn : L.length + D.length ≤ 900000) {y : Value} {ny : Nat} {ys : List Value} {wy : World} (hy : Sl W y ny ys wy) (hyd : ∀ g, v.ownBlock = some g → y.ownBlock ≠ some g)
  (hK : ∀ v' W' [Ap1 W W' base W] [Apn W W'], Sl W' y ny ys W' → Rn W' v' 165 17 (L ++ D).length (rowW (L ++ D)) base W' → Rn W' r 165 17 R.length (rowW R) base W' → (∀ g, v'.ownBlock = some g → r.ownBlock ≠ some g) → wpList Tryz.prog ops Q rest (a.put o.dst v') W') :
  wpList Tryz.prog ops Q (o :: rest) a W := by
 obtain rfl := hD.len; obtain ⟨i, hi, ⟨z, hz, hnd⟩, hsz, hbt⟩ := Kw
 have ht : Tryz.prog.underlying 108 = some (.slice 165) := Tryz.underlying108
 have hzs : z.cells.size = 17 := by
  have h3 := Hs
  rw [hi] at h3; simp only [Option.map_some, Option.some.injEq, Prod.mk.injEq] at h3
  have h4 := h3.1
  rw [hz] at h4
  injection h4 with h4
  rw [h4]; rfl
 refine wpList_plain hg fun K hKK => ?_
 by_cases h0 : D.length = 0
 ·have e0 : D = [] := List.eq_nil_of_length_eq_zero h0
  subst e0; obtain ⟨b, c', rfl⟩ := hL.slice
  have hcap : L.length ≤ c' := (Sl.ofRn (h := hL)).capc
  have hrun := Qfk (P := Tryz.prog) W 108 o.type 165 i ht hi b L.length c' hcap ax c
  unfold Oper.wp execOp
  simp only [hop, resolve, invoke, builtin, Sem.run_bind, Sem.run_pure, Result.andThen_ok, List.map_toArray, List.map_cons, List.map_nil, hs, hx, List.length_nil, hrun]
  have i1 : Ap1 W W base W := ⟨⟨none, gbr W, fun k hk => by cases hk⟩⟩
  have i2 : Apn W W := ⟨⟨none, gbr W, fun k hk => by cases hk⟩⟩
  exact hKK _ _ (@hK _ W i1 i2 hy.here (by rw [List.append_nil]; exact hL.here) hR.here hd)
 ·obtain ⟨g, rfl, hA⟩ := hD.form (by omega)
  have hnews : ∀ j u, (rowW D)[j]? = some u → W.cell? ((⟨g, 0, none⟩ : Addr).add j) = some u := fun j u hu => by
   have hadd : (⟨g, 0, none⟩ : Addr).add j = ⟨g, j, none⟩ := by unfold Addr.add; split <;> simp_all
   rw [hadd]; exact hA.out j u hu
  have hmx : L.length + D.length ≤ maxLen := by unfold maxLen; omega
  have hby : (L.length + D.length) * i.bytes ≤ 140737488355328 := by rw [hbt]; omega
  obtain ⟨v', w', hrun, h2, h3, h4⟩ := run_append_own (P := Tryz.prog) W base 108 o.type 165 i z 17 128 ht hi hz hsz hbt hzs (by decide) v L.length (rowW L) hL.rw'.out ⟨g, 0, none⟩ D.length c (rowW D) (Dj D) hnews (Hn D) hmx (by rw [hbt] at hby; exact hby) hL.rw'.hb
  have hsoft := J7 (P := Tryz.prog) W 108 o.type 165 i z ht hi hz ii (base := base) (by rw [hsz]; exact hL.rw'.out) hL.nd (F7 L) ⟨g, 0, none⟩ D.length c (rowW D) (by rw [hsz]; exact Dj D) hnews (Hn D) (F7 D) hnd hmx hby hrun
  have hblk := Qii (P := Tryz.prog) W 108 o.type 165 i z ht hi hz (base := base) (by rw [hsz]; exact hL.rw'.out) ⟨g, 0, none⟩ D.length c (rowW D) (by rw [hsz]; exact Dj D) hnews (Hn D) (by omega) hmx hby hrun
  unfold Oper.wp execOp
  simp only [hop, resolve, invoke, builtin, Sem.run_bind, Sem.run_pure, Result.andThen_ok, List.map_toArray, List.map_cons, List.map_nil, hs, hx, hrun]
  have i1 : Ap1 W w' base W := ⟨⟨_, h3, fun k hk => ⟨(hL.rw'.out.lt k hk).1, hL.rw'.ltW k hk⟩⟩⟩
  have i2 : Apn W w' := ⟨⟨_, h3, hL.nd⟩⟩
  refine hKK _ _ (@hK _ w' i1 i2 (hy.keep h3.size (fun k hk => h3.block k (hy.ltW k hk) (fun e => hyd k e.symm hk))).here ⟨Rw.mk1 (by rw [List.length_append, Kf]; exact h2) (Nat.le_trans hL.rw'.hb h3.size), hsoft⟩ ?_ ?_)
  ·exact (hR.keep h3.size (fun k hk => h3.block k (hR.rw'.ltW k hk) (fun e => hd k e.symm hk))).here
  ·intro k hk hk2
   rcases hblk k hk with h | h
   ·exact hd k h hk2
   ·have := hR.rw'.ltW k hk2; omega
end
end Go.Proofs.YtpnpnlmlamfpmaaGreatDoor
