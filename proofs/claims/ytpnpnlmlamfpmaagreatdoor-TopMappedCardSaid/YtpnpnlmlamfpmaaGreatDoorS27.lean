import Derived.Test.YtpnpnlmlamfpmaaGreatDoorS25
import Derived.Test.YtpnpnlmlamfpmaaGreatDoorS26
namespace Go.Proofs.YtpnpnlmlamfpmaaGreatDoor
set_option linter.unusedSimpArgs false
set_option linter.unusedVariables false
set_option maxHeartbeats 4000000
set_option maxRecDepth 100000
set_option synthInstance.maxHeartbeats 1000000
set_option synthInstance.maxSize 100000
section
open Go.RowKit Cel
def A6 (x y : Rat) (k : Nat) (u : Value) (W : World) : Prop := ∃ v : PV, u = .agg #[.int .i64 v.x.n, .int .i64 v.x.d, .pointer v.x.p, .int .i64 v.y.n, .int .i64 v.y.d, .pointer v.y.p] ∧ CF W (.agg #[.int .i64 v.x.n, .int .i64 v.x.d, .pointer v.x.p]) x k ∧ CF W (.agg #[.int .i64 v.y.n, .int .i64 v.y.d, .pointer v.y.p]) y k
variable {k : Nat} {x y : Rat}
instance  : Last (A6 x y k) := ⟨fun _ _ _ hb ⟨v, e, _, _⟩ => have := Kp1.mk hb; ⟨v, e, ii, ii⟩⟩
theorem A6.fin {W : World} {n1 d1 n2 d2 : Int} {p1 p2 : Option Addr} {x' y' : Rat} {k1 k2 : Nat} [h1 : CF W (.agg #[.int .i64 n1, .int .i64 d1, .pointer p1]) x' k1] [h2 : CF W (.agg #[.int .i64 n2, .int .i64 d2, .pointer p2]) y' k2] (e1 : x' = x) (b1 : k1 ≤ k) (e2 : y' = y) (b2 : k2 ≤ k) :
  A6 x y k (.agg #[.int .i64 n1, .int .i64 d1, .pointer p1, .int .i64 n2, .int .i64 d2, .pointer p2]) W := ⟨⟨⟨n1, d1, p1⟩, ⟨n2, d2, p2⟩⟩, rfl, h1.cast e1 b1, h2.cast e2 b2⟩
def Qgp (q : LQ) (u : Value) (W : World) : Prop := ∃ v : LV, u = .agg #[.int .i64 v.x.n, .int .i64 v.x.d, .pointer v.x.p, .int .i64 v.y.n, .int .i64 v.y.d, .pointer v.y.p, .int .i64 v.z.n, .int .i64 v.z.d, .pointer v.z.p] ∧ Lk W v q
variable {q : LQ}
instance  : Last (Qgp q) := ⟨fun _ _ _ hb ⟨v, e, _⟩ => have := Kp1.mk hb; ⟨v, e, ii⟩⟩
def Qls (q : IQ) (o : Bool) (u : Value) (W : World) : Prop := ∃ v : IV, u = .tuple #[.agg #[.int .i64 v.u.n, .int .i64 v.u.d, .pointer v.u.p, .int .i64 v.v.n, .int .i64 v.v.d, .pointer v.v.p, .bool v.nl, .bool v.nh], .bool o] ∧ Ik W v q
instance {q : IQ} {o : Bool} : Last (Qls q o) := ⟨fun _ _ _ hb ⟨v, e, _⟩ => have := Kp1.mk hb; ⟨v, e, ii⟩⟩
variable {w : World}
theorem Wx {P : Program} {f : FuncId} {args : Array Value} {K : Ending → World → Prop} (h : Calls P f args w (Bk w x k)) (b : k ≤ 3000)
  (hK : ∀ w' [Kp1 w w'] (n d : Int) (p : Option Addr) [CF w' (.agg #[.int .i64 n, .int .i64 d, .pointer p]) x 3000], K (.returned (.agg #[.int .i64 n, .int .i64 d, .pointer p])) w') : Calls P f args w K :=
 Ab h (fun w' _ n d p i => @hK w' _ n d p (i.cast rfl b))
theorem E8 {v : Int} {n d : Int} {p : Option Addr} [h : CF w (.agg #[.int .i64 n, .int .i64 d, .pointer p]) x k] (b : k ≤ 900000) (hv : Hid (isgn x.num = v)) :
  Calls Tryz.prog 129 #[.agg #[.int .i64 n, .int .i64 d, .pointer p]] w (fun e w' => e = .returned (.int .i64 v) ∧ Below w.heap.size w w') := by
 rw [← hv.out]; exact Hc b
theorem Gp (x : Rat) : (x < 0 ∧ isgn x.num = -1) ∨ (x = 0 ∧ isgn x.num = 0) ∨ (0 < x ∧ isgn x.num = 1) := by
 rcases F8 x.num with ⟨_, h⟩ | ⟨_, h⟩ | ⟨_, h⟩
 ·exact .inl ⟨Tc.1 h, h⟩
 ·exact .inr (.inl ⟨Lw.1 h, h⟩)
 ·exact .inr (.inr ⟨Qna.1 h, h⟩)
variable {v : LV}
theorem F6 [h : Lk w v q] : Calls Tryz.prog 180 #[.agg #[.int .i64 v.x.n, .int .i64 v.x.d, .pointer v.x.p, .int .i64 v.y.n, .int .i64 v.y.d, .pointer v.y.p, .int .i64 v.z.n, .int .i64 v.z.d, .pointer v.z.p]] w (L9 w (rev q)) := by
 go_enter Tryz.func180, Tryz.ntmps180; go_wp2_with fail; refine rgn [w.heap.size + 1] [] fun hH => ?_; refine tk 0 hH ?_; refine tk 1 hH ?_; refine tk 3 hH ?_; refine tk 4 hH ?_; refine tk 6 hH ?_; refine tk 7 hH (st 2 fun K hK => ?_); go_simp; refine Ab (Di (by omega)) ?_; intros; refine hd hK fun hH => st 5 fun K hK => ?_; go_simp; refine Ab (Di (by omega)) ?_; intros; refine hd hK fun hH => st 8 fun K hK => ?_; go_simp; refine Ab (Di (by omega)) ?_; intros; refine hd hK fun hH => ?_; refine tk 9 hH (st 10 fun K hK => ?_); go_simp; refine hd hK fun hH => dn ?_; clear hH; go_wp2; refine Ac rfl Tryz.underlying161 rfl (by kernel_rfl) rfl rfl rfl ?_; exact L9.fin ⟨⟨_, _, _⟩, ⟨_, _, _⟩, ⟨_, _, _⟩⟩ ⟨ii, ii, ii⟩
theorem Qma {u : LV} {i : IV} {l m : LQ} {q : IQ} [h1 : Lk w v l] [h2 : Ik w i q] [h3 : Lk w u m] : Calls Tryz.prog 179 #[.agg #[.int .i64 v.x.n, .int .i64 v.x.d, .pointer v.x.p, .int .i64 v.y.n, .int .i64 v.y.d, .pointer v.y.p, .int .i64 v.z.n, .int .i64 v.z.d, .pointer v.z.p], .agg #[.int .i64 i.u.n, .int .i64 i.u.d, .pointer i.u.p, .int .i64 i.v.n, .int .i64 i.v.d, .pointer i.v.p, .bool i.nl, .bool i.nh], .agg #[.int .i64 u.x.n, .int .i64 u.x.d, .pointer u.x.p, .int .i64 u.y.n, .int .i64 u.y.d, .pointer u.y.p, .int .i64 u.z.n, .int .i64 u.z.d, .pointer u.z.p]] w (G7 w (l.cut q m).1 (l.cut q m).2) := by
 obtain ⟨CO, hC⟩ : ∃ x, l.cut q m = x := ⟨_, rfl⟩; rw [hC]; go_enter Tryz.func179, Tryz.ntmps179
 go_upto_region 1 with fail
 go_cut [8, 9] from 8 to 18 (fun p r wx => ∃ (b8 b9 : Nat) (x y : RV), p = .pointer (some ⟨b8, 0, none⟩) ∧ r = .pointer (some ⟨b9, 0, none⟩) ∧ Bx wx b8 96 [.int .i64 x.n, .int .i64 x.d, .pointer x.p] ∧ Bx wx b9 96 [.int .i64 y.n, .int .i64 y.d, .pointer y.p] ∧ CF wx (.agg #[.int .i64 x.n, .int .i64 x.d, .pointer x.p]) (l.kk m) 607 ∧ CF wx (.agg #[.int .i64 y.n, .int .i64 y.d, .pointer y.p]) (l.cc m) 2300 ∧ Bx wx w.heap.size 161 [.int .i64 v.x.n, .int .i64 v.x.d, .pointer v.x.p, .int .i64 v.y.n, .int .i64 v.y.d, .pointer v.y.p, .int .i64 v.z.n, .int .i64 v.z.d, .pointer v.z.p] ∧ Bx wx (w.heap.size + 1) 163 [.int .i64 i.u.n, .int .i64 i.u.d, .pointer i.u.p, .int .i64 i.v.n, .int .i64 i.v.d, .pointer i.v.p, .bool i.nl, .bool i.nh] ∧ Bx wx (w.heap.size + 1 + 1) 161 [.int .i64 u.x.n, .int .i64 u.x.d, .pointer u.x.p, .int .i64 u.y.n, .int .i64 u.y.d, .pointer u.y.p, .int .i64 u.z.n, .int .i64 u.z.d, .pointer u.z.p] ∧ Bx wx (w.heap.size + 1 + 1 + 1) 163 [.int .i64 0, .int .i64 0, .pointer none, .int .i64 0, .int .i64 0, .pointer none, .bool false, .bool false] ∧ Kp w wx ∧ NeN b8 (w.heap.size + 1 + 1 + 1) ∧ NeN b9 (w.heap.size + 1 + 1 + 1))
 case first =>
  refine Ly [] [] fun w0 ew hH => ?_
  refine tk 0 hH ?_; refine tk 2 hH ?_; refine tk 5 hH ?_; refine tk 6 hH ?_
  refine Jq [(1, 11), (3, 13), (4, 14), (7, 17), (8, 18), (9, 8), (10, 9)] (fun i => match i with | 1 => [] | 3 => [1] | 4 => [1, 3] | 7 => [4] | 8 => [7] | 9 => [] | 10 => [] | _ => []) [A6 m.a m.b 150, A6 l.b (-l.a) 150, Bf (l.kk m) 607, A6 l.base.1 l.base.2 920, Bf (l.cc m) 2300, Du w0 96 [.int .i64 0, .int .i64 0, .pointer none], Du w0 96 [.int .i64 0, .int .i64 0, .pointer none]] [9, 10] 2 (by rfl) (by decide +kernel) (by decide) (by decide) (by kernel_rfl) ?_ (fun _ _ => Ex.below) hH ?_ ?_
  ·intro i hi v W h; simp only [List.mem_cons, List.not_mem_nil, or_false] at hi
   rcases hi with rfl | rfl
   all_goals exact Du.old h
  ·intro i hi f W hSw hbw hp; have kw := Kp1.mk hbw
   have kv := Gl ew (W := W)
   have kz : Kz w0 W := ⟨kv.out.size⟩
   have hSx := Ex1.mk hSw
   clear hH; simp only [List.map_cons, List.map_nil, List.mem_cons, List.not_mem_nil, or_false] at hi
   rcases hi with rfl | rfl | rfl | rfl | rfl | rfl | rfl
   ·refine ⟨_, by simp; rfl, fun K' hK => ?_⟩
    clear hp; simp only [Ai, Act.put, sA, sB, sC] at hK ⊢
    generalize f 1 = v1, f 3 = v3, f 4 = v4, f 7 = v7, f 8 = v8, f 9 = v9 at *; generalize f 10 = v10 at *
    go_simp; refine Au (Ev (by omega)) ?_; intros
    refine hK.out _ _ _ rfl (ii : Kp W _).out ?_ ?_
    ·exact A6.fin rfl (by omega) rfl (by omega)
    ·exact fun h => absurd h (by decide)
   ·have h1 : A6 m.a m.b 150 (f 1) W := hp 1 (by decide)
    refine ⟨_, by simp; rfl, fun K' hK => ?_⟩
    clear hp; simp only [Ai, Act.put, sA, sB, sC] at hK ⊢
    generalize f 1 = v1, f 3 = v3, f 4 = v4, f 7 = v7, f 8 = v8, f 9 = v9 at *; generalize f 10 = v10 at *
    obtain ⟨v1, rfl, i1, j1⟩ := h1; go_simp; refine Au (Fa (by omega)) ?_; intros
    refine hK.out _ _ _ rfl (ii : Kp W _).out ?_ ?_
    ·exact A6.fin rfl (by omega) rfl (by omega)
    ·exact fun h => absurd h (by decide)
   ·have h1 : A6 m.a m.b 150 (f 1) W := hp 1 (by decide)
    have h3 : A6 l.b (-l.a) 150 (f 3) W := hp 3 (by decide)
    refine ⟨_, by simp; rfl, fun K' hK => ?_⟩
    clear hp; simp only [Ai, Act.put, sA, sB, sC] at hK ⊢
    generalize f 1 = v1, f 3 = v3, f 4 = v4, f 7 = v7, f 8 = v8, f 9 = v9 at *; generalize f 10 = v10 at *
    obtain ⟨v1, rfl, i1, j1⟩ := h1; obtain ⟨v3, rfl, i3, j3⟩ := h3; go_simp; refine Ab (Ej (by omega)) ?_; intros
    refine hK.out _ _ _ rfl (ii : Kp W _).out ?_ ?_
    ·exact Bf.fin rfl (by omega)
    ·exact fun h => absurd h (by decide)
   ·have h4 : Bf (l.kk m) 607 (f 4) W := hp 4 (by decide)
    refine ⟨_, by simp; rfl, fun K' hK => ?_⟩
    clear hp; simp only [Ai, Act.put, sA, sB, sC] at hK ⊢
    generalize f 1 = v1, f 3 = v3, f 4 = v4, f 7 = v7, f 8 = v8, f 9 = v9 at *; generalize f 10 = v10 at *
    obtain ⟨n4, d4, p4, rfl, i4⟩ := h4; go_simp; refine Au (Zm (by omega)) ?_; intros
    refine hK.out _ _ _ rfl (ii : Kp W _).out ?_ ?_
    ·exact A6.fin rfl (by omega) rfl (by omega)
    ·exact fun h => absurd h (by decide)
   ·have h7 : A6 l.base.1 l.base.2 920 (f 7) W := hp 7 (by decide)
    refine ⟨_, by simp; rfl, fun K' hK => ?_⟩
    clear hp; simp only [Ai, Act.put, sA, sB, sC] at hK ⊢
    generalize f 1 = v1, f 3 = v3, f 4 = v4, f 7 = v7, f 8 = v8, f 9 = v9 at *; generalize f 10 = v10 at *
    obtain ⟨v7, rfl, i7, j7⟩ := h7; go_simp; refine Ab (Hh (by omega)) ?_; intros
    refine hK.out _ _ _ rfl (ii : Kp W _).out ?_ ?_
    ·exact Bf.fin rfl (by omega)
    ·exact fun h => absurd h (by decide)
   ·refine ⟨_, by simp; rfl, fun K' hK => ?_⟩
    clear hp; simp only [Ai, Act.put, sA, sB, sC] at hK ⊢
    generalize f 1 = v1, f 3 = v3, f 4 = v4, f 7 = v7, f 8 = v8, f 9 = v9 at *; generalize f 10 = v10 at *
    go_simp
    refine hK.out _ _ _ rfl (ii : Kp W _).out ?_ ?_
    ·exact Du.fin
    ·exact fun _ => ⟨_, rfl, Nat.le_refl _⟩
   ·refine ⟨_, by simp; rfl, fun K' hK => ?_⟩
    clear hp; simp only [Ai, Act.put, sA, sB, sC] at hK ⊢
    generalize f 1 = v1, f 3 = v3, f 4 = v4, f 7 = v7, f 8 = v8, f 9 = v9 at *; generalize f 10 = v10 at *
    go_simp
    refine hK.out _ _ _ rfl (ii : Kp W _).out ?_ ?_
    ·exact Du.fin
    ·exact fun _ => ⟨_, rfl, Nat.le_refl _⟩
  ·intro f W hSw hbw hf hne; have kw := Kp1.mk hbw
   have hSx := Ex1.mk hSw
   clear hH
   have kv := Gl ew (W := W)
   have kz : Kz w0 W := ⟨kv.out.size⟩
   have h1 : A6 m.a m.b 150 (f 1) W := hf 1 (by decide)
   have h3 : A6 l.b (-l.a) 150 (f 3) W := hf 3 (by decide)
   have h4 : Bf (l.kk m) 607 (f 4) W := hf 4 (by decide)
   have h7 : A6 l.base.1 l.base.2 920 (f 7) W := hf 7 (by decide)
   have h8 : Bf (l.cc m) 2300 (f 8) W := hf 8 (by decide)
   have h9 : Du w0 96 [.int .i64 0, .int .i64 0, .pointer none] (f 9) W := hf 9 (by decide)
   have h10 : Du w0 96 [.int .i64 0, .int .i64 0, .pointer none] (f 10) W := hf 10 (by decide)
   have n9_10 := hne 9 10 (by decide) (by decide) (by decide) (by decide) (by decide)
   clear hf hne; simp only [Ai, lset, List.map_cons, List.map_nil, Act.put, List.setIfInBounds_toArray, List.set_cons_zero, List.set_cons_succ]
   generalize f 1 = v1, f 3 = v3, f 4 = v4, f 7 = v7, f 8 = v8, f 9 = v9 at *; generalize f 10 = v10 at *
   obtain ⟨v1, rfl, i1, j1⟩ := h1; obtain ⟨v3, rfl, i3, j3⟩ := h3; obtain ⟨n4, d4, p4, rfl, i4⟩ := h4; obtain ⟨v7, rfl, i7, j7⟩ := h7; obtain ⟨n8, d8, p8, rfl, i8⟩ := h8; obtain ⟨b9, rfl, i9, j9, k9⟩ := h9; obtain ⟨b10, rfl, i10, j10, k10⟩ := h10
   have nw9 := Jl ew j9
   have gg9 := Jg ew k9
   have gl9 : Ge w b9 := ⟨by have h2 := j9.out; rw [ew.out] at h2; exact Nat.le_trans (ii : Kp w _).out.size h2⟩
   have nw10 := Jl ew j10
   have gg10 := Jg ew k10
   have gl10 : Ge w b10 := ⟨by have h2 := j10.out; rw [ew.out] at h2; exact Nat.le_trans (ii : Kp w _).out.size h2⟩
   have n9_10 := Xr n9_10
   have n10_9 : NeN b10 b9 := ⟨fun e => n9_10.out e.symm⟩
   have hH := hSw
   refine st 11 fun K hK => ?_; go_simp; refine hd hK fun hH => st 12 fun K hK => ?_; go_simp; refine hd hK fun hH => dn ?_; clear hH; go_wp2_with fail; go_meet; exact ⟨_, _, ⟨_, _, _⟩, ⟨_, _, _⟩, rfl, rfl, ii, ii, ii, ii, ii, ii, ii, ii, ii, ii, ii⟩
 case rest =>
  obtain ⟨b8, b9, x, y, rfl, rfl, i1, i2, i3, i4, i5, i6, i7, i8, i9, i10, i11⟩ := hcut; have kw := Kp1.mk i9.out
  rcases Gp (l.kk m) with ⟨hk, hv⟩ | ⟨hk, hv⟩ | ⟨hk, hv⟩
  ·have E : CO = (q.meet ⟨0, -(l.cc m / l.kk m), true, false⟩, !(q.meet ⟨0, -(l.cc m / l.kk m), true, false⟩).empty) := by rw [← hC]; unfold LQ.cut; rw [if_neg (by grind), if_neg (by grind)]
   clear hC; subst E; have HV := Lib.hid hv; clear hv hk
   go_wp2_with (first
    | (go_at_call 129; refine Aa (E8 (by omega) HV) ?_; intros))
   refine rgn [w.heap.size + 1 + 1 + 1] [] fun hH => ?_; refine tk 0 hH ?_; refine tk 1 hH ?_; refine tk 2 hH (st 3 fun K hK => ?_); go_simp; refine Ab (Dl (by omega)) ?_; intros; refine hd hK fun hH => st 4 fun K hK => ?_; go_simp; refine Wx (Di (by omega)) (by omega) ?_; intros; refine hd hK fun hH => ?_; refine tk 5 hH (st 6 fun K hK => ?_); go_simp; refine Bm (St (j := ⟨⟨0, 0, none⟩, ⟨_, _, _⟩, true, false⟩)) ?_; intros; refine hd hK fun hH => ?_; refine tk 7 hH ?_; refine tk 8 hH (st 9 fun K hK => ?_); go_simp; refine hd hK fun hH => ?_; refine tk 10 hH (dn ?_); clear hH; go_wp2_with fail
   refine B6 rfl Tryz.underlying163 rfl (by kernel_rfl) rfl rfl rfl ?_
   exact G7.fin _ ii rfl
  ·obtain ⟨sv, hw, HD⟩ : ∃ sv : Int, isgn (l.cc m).num = sv ∧ decide (0 < l.cc m) = decide (0 < sv) := ⟨_, rfl, by rcases Gp (l.cc m) with ⟨h, e⟩ | ⟨h, e⟩ | ⟨h, e⟩ <;> rw [e] <;> simp <;> grind⟩
   have E : CO = (q, decide (0 < sv)) := by rw [← hC]; unfold LQ.cut; rw [if_pos hk, HD]
   clear hC; subst E; have HV := Lib.hid hv; have HW := Lib.hid hw; clear hv hw hk HD
   go_wp2_with (first
    | (go_at_call 129; refine Aa (E8 (by omega) HV) ?_; intros))
   refine rgn [w.heap.size + 1 + 1 + 1] [] fun hH => ?_; refine tk 0 hH ?_; refine tk 1 hH (st 2 fun K hK => ?_); go_simp; refine Aa (E8 (by omega) HW) ?_; intros; refine hd hK fun hH => ?_; refine tk 3 hH (st 4 fun K hK => ?_); go_simp; refine hd hK fun hH => ?_; refine tk 5 hH (dn ?_); clear hH; go_wp2_with fail
   refine B6 rfl Tryz.underlying163 rfl (by kernel_rfl) rfl rfl rfl ?_
   exact G7.fin i ii (by simp)
  ·have E : CO = (q.meet ⟨-(l.cc m / l.kk m), 0, false, true⟩, !(q.meet ⟨-(l.cc m / l.kk m), 0, false, true⟩).empty) := by rw [← hC]; unfold LQ.cut; rw [if_neg (by grind), if_pos hk]
   clear hC; subst E; have HV := Lib.hid hv; clear hv hk
   go_wp2_with (first
    | (go_at_call 129; refine Aa (E8 (by omega) HV) ?_; intros))
   refine rgn [w.heap.size + 1 + 1 + 1] [] fun hH => ?_; refine tk 0 hH ?_; refine tk 1 hH ?_; refine tk 2 hH (st 3 fun K hK => ?_); go_simp; refine Ab (Dl (by omega)) ?_; intros; refine hd hK fun hH => st 4 fun K hK => ?_; go_simp; refine Wx (Di (by omega)) (by omega) ?_; intros; refine hd hK fun hH => ?_; refine tk 5 hH (st 6 fun K hK => ?_); go_simp; refine Bm (St (j := ⟨⟨_, _, _⟩, ⟨0, 0, none⟩, false, true⟩)) ?_; intros; refine hd hK fun hH => ?_; refine tk 7 hH ?_; refine tk 8 hH (st 9 fun K hK => ?_); go_simp; refine hd hK fun hH => ?_; refine tk 10 hH (dn ?_); clear hH; go_wp2_with fail
   refine B6 rfl Tryz.underlying163 rfl (by kernel_rfl) rfl rfl rfl ?_
   exact G7.fin _ ii rfl
end
section
open Go.RowKit Cel
theorem RV.one1 (e : RV) : ∀ u ∈ ([.int .i64 e.n, .int .i64 e.d, .pointer e.p] : List Value), u.oneCell' = true := by
 intro u hu; simp only [List.mem_cons, List.not_mem_nil, or_false] at hu; rcases hu with rfl | rfl | rfl <;> rfl
theorem IV.one1 (e : IV) : ∀ u ∈ ([.int .i64 e.u.n, .int .i64 e.u.d, .pointer e.u.p, .int .i64 e.v.n, .int .i64 e.v.d, .pointer e.v.p, .bool e.nl, .bool e.nh] : List Value), u.oneCell' = true := by
 intro u hu; simp only [List.mem_cons, List.not_mem_nil, or_false] at hu; rcases hu with rfl | rfl | rfl | rfl | rfl | rfl | rfl | rfl <;> rfl
variable {K : Act → World → Prop} {Q : Exit → Act → World → Prop} {W W0 W2 w : World} {a : Act} {b : Nat} {l l' : List Value} {o : Oper} {t : TypeId}
theorem Bs (ty : TypeId) (x y : Operand) (ho : o.op = .store ty x y) (hd : o.dst = none) (hx : a.eval x = .pointer (some ⟨b, 0, none⟩)) (hy : a.eval y = .agg l'.toArray) [hb : Bx W b t l] (hi : (Tryz.prog.info? ty).map (·.size) = some l'.length) (hold : l.length = l'.length) (h1 : ∀ u ∈ l', u.oneCell' = true) [k : Kp w W] [g : Ge w b] [s : SoftB W b]
  (hK : ∀ W' [Ex1 W [b] W'] [Apn W W'] [Bx W' b t l'] [Kp1 w W'] [Kp w W'], K a W') : o.wp Tryz.prog a W K Q := by
 refine wp_store_row ty x y ho b l'.toArray hx hy t l.toArray hb.out (by rw [hi]; simp) (by simpa using hold) ?_ ?_
 ·rw [List.all_toArray]; exact List.all_eq_true.2 h1
 ·have hne : ∀ j, j ≠ b → (W.setRow b l'.toArray).heap[j]? = W.heap[j]? := fun j hj => by
   simp only [World.setRow, Array.getElem?_modify]; rw [if_neg (fun e => hj e.symm)]
  have hsz : (W.setRow b l'.toArray).heap.size = W.heap.size := by simp [World.setRow]
  have i0 : Below w.heap.size w (W.setRow b l'.toArray) := below_setRow k.out g.out _
  have i1 : Ex1 W [b] (W.setRow b l'.toArray) := ⟨⟨by rw [hsz]; exact Nat.le_refl _, fun j hj hL => hne j (fun e => hL (by simp [e]))⟩⟩
  have i2 : Apn W (W.setRow b l'.toArray) := ⟨⟨some b, ⟨rfl, rfl, rfl, by rw [hsz]; exact Nat.le_refl _, fun j hj hn => hne j (fun e => hn (by rw [e]))⟩, fun j e => by cases e; exact s⟩⟩
  have i3 : Bx (W.setRow b l'.toArray) b t l' := ⟨setRow_heap W b _ _ t _ hb.out⟩
  rw [hd]; exact @hK _ i1 i2 i3 ⟨i0⟩ ⟨i0⟩
variable {ops : Array Oper} {rest : List Oper}
theorem Hk (hg : o.guard = none) (ty : TypeId) (x y : Operand) (ho : o.op = .store ty x y) (hd : o.dst = none) (hx : a.eval x = .pointer (some ⟨b, 0, none⟩)) (hy : a.eval y = .agg l'.toArray) [hb : Bx W b t l] (hi : (Tryz.prog.info? ty).map (·.size) = some l'.length) (hold : l.length = l'.length) (h1 : ∀ u ∈ l', u.oneCell' = true) [k : Kp w W] [g : Ge w b] [s : SoftB W b]
  (hK : ∀ W' [Ex1 W [b] W'] [Apn W W'] [Bx W' b t l'] [Kp1 w W'] [Kp w W'], wpList Tryz.prog ops Q rest a W') : wpList Tryz.prog ops Q (o :: rest) a W := by
 exact wpList_plain hg fun K hKK => Bs ty x y ho hd hx hy hi hold h1 (w := w) (fun W' => hKK _ _ (hK W'))
variable {L : List Nat}
instance (priority := low) Ex.ex1 [k : Ex1 W [b] W2] [n : Gg W0 b] [h : Ex W0 L W] : Ex W0 L W2 :=
 ⟨Nat.le_trans h.size k.out.size, fun j hj hL => by rw [k.out.block j (Nat.lt_of_lt_of_le hj h.size) (fun e => by have := n.out; have := List.mem_singleton.1 e; omega)]; exact h.block j hj hL⟩
instance (priority := low) Ex.ex2 [k : Ex1 W [b] W2] [n : InL b L] [h : Ex W0 L W] : Ex W0 L W2 :=
 ⟨Nat.le_trans h.size k.out.size, fun j hj hL => by rw [k.out.block j (Nat.lt_of_lt_of_le hj h.size) (fun e => hL (by have := List.mem_singleton.1 e; subst this; exact n.out))]; exact h.block j hj hL⟩
instance (priority := low) Fk.of {v : LV} {i : IV} {l : LQ} {q : IQ} [h1 : Lk W v l] [h2 : Ik W i q] : Fk W ⟨v, i⟩ ⟨l, q⟩ := ⟨h1, h2⟩
theorem Qcw (ty : TypeId) (hty : Tryz.prog.underlying ty = some (.slice 165)) (x : Operand) (ho : o.op = .buildSlice ty 1 #[(0, x)]) (e : GW) (hx : a.eval x = .agg #[.int .i64 e.l.x.n, .int .i64 e.l.x.d, .pointer e.l.x.p, .int .i64 e.l.y.n, .int .i64 e.l.y.d, .pointer e.l.y.p, .int .i64 e.l.z.n, .int .i64 e.l.z.d, .pointer e.l.z.p, .int .i64 e.i.u.n, .int .i64 e.i.u.d, .pointer e.i.u.p, .int .i64 e.i.v.n, .int .i64 e.i.v.d, .pointer e.i.v.p, .bool e.i.nl, .bool e.i.nh])
  (hK : K (a.put o.dst (.slice (some ⟨W.heap.size, 0, none⟩) 1 1)) (W.alloc (.cells (([.int .i64 e.l.x.n, .int .i64 e.l.x.d, .pointer e.l.x.p, .int .i64 e.l.y.n, .int .i64 e.l.y.d, .pointer e.l.y.p, .int .i64 e.l.z.n, .int .i64 e.l.z.d, .pointer e.l.z.p, .int .i64 e.i.u.n, .int .i64 e.i.u.d, .pointer e.i.u.p, .int .i64 e.i.v.n, .int .i64 e.i.v.d, .pointer e.i.v.p, .bool e.i.nl, .bool e.i.nh] : List Value).toArray) 165))) : o.wp Tryz.prog a W K Q := by
 have hi := Hs
 obtain ⟨i0, hi0⟩ : ∃ i0, Tryz.prog.info? 165 = some i0 := by
  cases h : Tryz.prog.info? 165 with
  | none => rw [h] at hi; cases hi
  | some i0 => exact ⟨i0, rfl⟩
 rw [hi0] at hi; simp only [Option.map_some, Option.some.injEq, Prod.mk.injEq] at hi; obtain ⟨hz, hsz, hb⟩ := hi
 refine wp_buildSlice ty 165 1 #[(0, x)] ho _ i0 _ hty hi0 hz (by rw [hsz]; decide) (by rw [hsz]; decide) ?_ hK
 rw [hsz]; simp only [List.map_toArray, List.map_cons, List.map_nil, hx]
 first | kernel_rfl | (simp [Instr.fill, Value.cells]; done)
theorem E6 (hg : o.guard = none) (ty : TypeId) (hty : Tryz.prog.underlying ty = some (.slice 165)) (x : Operand) (ho : o.op = .buildSlice ty 1 #[(0, x)]) (e : GW) (hx : a.eval x = .agg #[.int .i64 e.l.x.n, .int .i64 e.l.x.d, .pointer e.l.x.p, .int .i64 e.l.y.n, .int .i64 e.l.y.d, .pointer e.l.y.p, .int .i64 e.l.z.n, .int .i64 e.l.z.d, .pointer e.l.z.p, .int .i64 e.i.u.n, .int .i64 e.i.u.d, .pointer e.i.u.p, .int .i64 e.i.v.n, .int .i64 e.i.v.d, .pointer e.i.v.p, .bool e.i.nl, .bool e.i.nh])
  (hK : wpList Tryz.prog ops Q rest (a.put o.dst (.slice (some ⟨W.heap.size, 0, none⟩) 1 1)) (W.alloc (.cells (([.int .i64 e.l.x.n, .int .i64 e.l.x.d, .pointer e.l.x.p, .int .i64 e.l.y.n, .int .i64 e.l.y.d, .pointer e.l.y.p, .int .i64 e.l.z.n, .int .i64 e.l.z.d, .pointer e.l.z.p, .int .i64 e.i.u.n, .int .i64 e.i.u.d, .pointer e.i.u.p, .int .i64 e.i.v.n, .int .i64 e.i.v.d, .pointer e.i.v.p, .bool e.i.nl, .bool e.i.nh] : List Value).toArray) 165))) : wpList Tryz.prog ops Q (o :: rest) a W :=
 wpList_plain hg fun K hKK => Qcw ty hty x ho e hx (hKK _ _ hK)
end
end Go.Proofs.YtpnpnlmlamfpmaaGreatDoor
