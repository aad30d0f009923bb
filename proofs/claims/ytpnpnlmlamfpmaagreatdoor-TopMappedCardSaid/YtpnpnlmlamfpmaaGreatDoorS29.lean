import Derived.Test.YtpnpnlmlamfpmaaGreatDoorS28
namespace Go.Proofs.YtpnpnlmlamfpmaaGreatDoor
set_option linter.unusedSimpArgs false
set_option linter.unusedVariables false
set_option maxHeartbeats 4000000
set_option maxRecDepth 100000
set_option synthInstance.maxHeartbeats 1000000
set_option synthInstance.maxSize 100000
open Go.RowKit Cel
variable {V : List GW} {W w w0 : World} {g k q : Nat}
@[go_sem] theorem Qnd [h : At W g (rowW V) w0] [l : LtN 0 V.length] : W.cell? ⟨g, 0, none⟩ = some (.int .i64 (wV V 0).l.x.n) := by have := Ci (k := 0) (j := 0) h l.out (by decide); rw [Nat.zero_mul, Nat.zero_add] at this; exact this
@[go_sem] theorem Qne [h : At W g (rowW V) w0] [l : LtN 0 V.length] : W.cell? ⟨g, 1, none⟩ = some (.int .i64 (wV V 0).l.x.d) := by have := Ci (k := 0) (j := 1) h l.out (by decide); rw [Nat.zero_mul, Nat.zero_add] at this; exact this
@[go_sem] theorem Qm4 [h : At W g (rowW V) w0] [l : LtN 0 V.length] : W.cell? ⟨g, 2, none⟩ = some (.pointer (wV V 0).l.x.p) := by have := Ci (k := 0) (j := 2) h l.out (by decide); rw [Nat.zero_mul, Nat.zero_add] at this; exact this
@[go_sem] theorem Qn6 [h : At W g (rowW V) w0] [l : LtN 0 V.length] : W.cell? ⟨g, 3, none⟩ = some (.int .i64 (wV V 0).l.y.n) := by have := Ci (k := 0) (j := 3) h l.out (by decide); rw [Nat.zero_mul, Nat.zero_add] at this; exact this
@[go_sem] theorem Qn3 [h : At W g (rowW V) w0] [l : LtN 0 V.length] : W.cell? ⟨g, 4, none⟩ = some (.int .i64 (wV V 0).l.y.d) := by have := Ci (k := 0) (j := 4) h l.out (by decide); rw [Nat.zero_mul, Nat.zero_add] at this; exact this
@[go_sem] theorem Qnj [h : At W g (rowW V) w0] [l : LtN 0 V.length] : W.cell? ⟨g, 5, none⟩ = some (.pointer (wV V 0).l.y.p) := by have := Ci (k := 0) (j := 5) h l.out (by decide); rw [Nat.zero_mul, Nat.zero_add] at this; exact this
@[go_sem] theorem Qnc [h : At W g (rowW V) w0] [l : LtN 0 V.length] : W.cell? ⟨g, 6, none⟩ = some (.int .i64 (wV V 0).l.z.n) := by have := Ci (k := 0) (j := 6) h l.out (by decide); rw [Nat.zero_mul, Nat.zero_add] at this; exact this
@[go_sem] theorem Qn1 [h : At W g (rowW V) w0] [l : LtN 0 V.length] : W.cell? ⟨g, 7, none⟩ = some (.int .i64 (wV V 0).l.z.d) := by have := Ci (k := 0) (j := 7) h l.out (by decide); rw [Nat.zero_mul, Nat.zero_add] at this; exact this
@[go_sem] theorem Qnr [h : At W g (rowW V) w0] [l : LtN 0 V.length] : W.cell? ⟨g, 8, none⟩ = some (.pointer (wV V 0).l.z.p) := by have := Ci (k := 0) (j := 8) h l.out (by decide); rw [Nat.zero_mul, Nat.zero_add] at this; exact this
@[go_sem] theorem Qm9 [h : At W g (rowW V) w0] [l : LtN 0 V.length] : W.cell? ⟨g, 9, none⟩ = some (.int .i64 (wV V 0).i.u.n) := by have := Ci (k := 0) (j := 9) h l.out (by decide); rw [Nat.zero_mul, Nat.zero_add] at this; exact this
@[go_sem] theorem Qnn [h : At W g (rowW V) w0] [l : LtN 0 V.length] : W.cell? ⟨g, 10, none⟩ = some (.int .i64 (wV V 0).i.u.d) := by have := Ci (k := 0) (j := 10) h l.out (by decide); rw [Nat.zero_mul, Nat.zero_add] at this; exact this
@[go_sem] theorem Qnw [h : At W g (rowW V) w0] [l : LtN 0 V.length] : W.cell? ⟨g, 11, none⟩ = some (.pointer (wV V 0).i.u.p) := by have := Ci (k := 0) (j := 11) h l.out (by decide); rw [Nat.zero_mul, Nat.zero_add] at this; exact this
@[go_sem] theorem Qn2 [h : At W g (rowW V) w0] [l : LtN 0 V.length] : W.cell? ⟨g, 12, none⟩ = some (.int .i64 (wV V 0).i.v.n) := by have := Ci (k := 0) (j := 12) h l.out (by decide); rw [Nat.zero_mul, Nat.zero_add] at this; exact this
@[go_sem] theorem Qnp [h : At W g (rowW V) w0] [l : LtN 0 V.length] : W.cell? ⟨g, 13, none⟩ = some (.int .i64 (wV V 0).i.v.d) := by have := Ci (k := 0) (j := 13) h l.out (by decide); rw [Nat.zero_mul, Nat.zero_add] at this; exact this
@[go_sem] theorem Qnl [h : At W g (rowW V) w0] [l : LtN 0 V.length] : W.cell? ⟨g, 14, none⟩ = some (.pointer (wV V 0).i.v.p) := by have := Ci (k := 0) (j := 14) h l.out (by decide); rw [Nat.zero_mul, Nat.zero_add] at this; exact this
@[go_sem] theorem Qm6 [h : At W g (rowW V) w0] [l : LtN 0 V.length] : W.cell? ⟨g, 15, none⟩ = some (.bool (wV V 0).i.nl) := by have := Ci (k := 0) (j := 15) h l.out (by decide); rw [Nat.zero_mul, Nat.zero_add] at this; exact this
@[go_sem] theorem Qm5 [h : At W g (rowW V) w0] [l : LtN 0 V.length] : W.cell? ⟨g, 16, none⟩ = some (.bool (wV V 0).i.nh) := by have := Ci (k := 0) (j := 16) h l.out (by decide); rw [Nat.zero_mul, Nat.zero_add] at this; exact this
theorem Qi9 [h : At W g (rowW V) w0] (hk : k + 1 < V.length) : (loadVar 165 ⟨g, 17 + k * 17, none⟩).run Tryz.prog W = .ok (.agg #[.int .i64 (wV V (k + 1)).l.x.n, .int .i64 (wV V (k + 1)).l.x.d, .pointer (wV V (k + 1)).l.x.p, .int .i64 (wV V (k + 1)).l.y.n, .int .i64 (wV V (k + 1)).l.y.d, .pointer (wV V (k + 1)).l.y.p, .int .i64 (wV V (k + 1)).l.z.n, .int .i64 (wV V (k + 1)).l.z.d, .pointer (wV V (k + 1)).l.z.p, .int .i64 (wV V (k + 1)).i.u.n, .int .i64 (wV V (k + 1)).i.u.d, .pointer (wV V (k + 1)).i.u.p, .int .i64 (wV V (k + 1)).i.v.n, .int .i64 (wV V (k + 1)).i.v.d, .pointer (wV V (k + 1)).i.v.p, .bool (wV V (k + 1)).i.nl, .bool (wV V (k + 1)).i.nh]) W := by
 have e : 17 + k * 17 = (k + 1) * 17 := (by omega)
 rw [e]; exact C6 hk
variable {C : List FQ} {f : Rat} {n p : Rat × Rat}
theorem Qj5 (h : q < C.length) : Bq p n (C.drop q) f = Bq p n (C.drop (q + 1)) (if (sd C q).l.a * n.1 + (sd C q).l.b * n.2 < 0 then (if -((sd C q).l.val p / ((sd C q).l.a * n.1 + (sd C q).l.b * n.2)) < f then -((sd C q).l.val p / ((sd C q).l.a * n.1 + (sd C q).l.b * n.2)) else f) else f) := by
 rw [List.drop_eq_getElem_cons h, Bz h]; rfl
theorem Qij (h : C.length ≤ q) : Bq p n (C.drop q) f = f := by rw [List.drop_eq_nil_of_le h]; rfl
theorem Qha (h : 0 < C.length) : inner C = (((sd C 0).l.at' (sd C 0).v.sample).1 + (sd C 0).l.a * (Bq ((sd C 0).l.at' (sd C 0).v.sample) ((sd C 0).l.a, (sd C 0).l.b) (C.drop 1) 1 / 2), ((sd C 0).l.at' (sd C 0).v.sample).2 + (sd C 0).l.b * (Bq ((sd C 0).l.at' (sd C 0).v.sample) ((sd C 0).l.a, (sd C 0).l.b) (C.drop 1) 1 / 2)) := by
 cases C with
 | nil => simp at h
 | cons s C => rfl
theorem Y4 {P : Program} {f : FuncId} {args : Array Value} {x : Rat} {K : Ending → World → Prop} (K0 : Nat) (h : Calls P f args w (Bk w x k)) (b : k ≤ K0)
  (hK : ∀ w' [Kp1 w w'] (n d : Int) (p : Option Addr) [CF w' (.agg #[.int .i64 n, .int .i64 d, .pointer p]) x K0], K (.returned (.agg #[.int .i64 n, .int .i64 d, .pointer p])) w') : Calls P f args w K :=
 Ab h (fun w' _ n d p i => @hK w' _ n d p (i.cast rfl b))
theorem Qe4 {a : Option Addr} {n c : Nat} [hs : Sl w (.slice a n c) V.length (rowW V) w0] [hp : Cw w V C] (hV : V.length ≤ 900000) : Calls Tryz.prog 124 #[.slice a n c] w (Cd w (inner C).1 (inner C).2 22600) := by
 obtain rfl := hs.len; have hlen := Lib.hid hp.len
 by_cases h0 : V.length = 0
 ·have e0 : C = [] := List.eq_nil_of_length_eq_zero (by have := hlen.out; omega)
  subst e0
  have hz : ((V.length : Int) == 0) = true := by rw [h0]; rfl
  go_enter Tryz.func124, Tryz.ntmps124; go_wp2_with fail; refine Ac rfl Tryz.underlying98 rfl (by kernel_rfl) rfl rfl rfl ?_; exact Cd.fin rfl (by omega) rfl (by omega)
 ·have lz : LtN 0 V.length := ⟨by omega⟩
  have hz : ((V.length : Int) == 0) = false := beq_eq_false_iff_ne.2 (by omega)
  have hz1 : 0 < V.length := lz.out
  have hz2 : (0 : Int) < (V.length : Int) := (by omega); obtain ⟨g, rfl, hA⟩ := hs.form lz.out
  have hI := Lib.hid (Qha (C := C) (by have := hlen.out; omega))
  go_enter Tryz.func124, Tryz.ntmps124
  go_upto_region 3 with fail
  go_cut [3, 4] from 13 to 27 (fun x y wx => ∃ (b3 b4 : Nat) (u v : PV), x = .pointer (some ⟨b3, 0, none⟩) ∧ y = .pointer (some ⟨b4, 0, none⟩) ∧ Bx wx b3 98 [.int .i64 u.x.n, .int .i64 u.x.d, .pointer u.x.p, .int .i64 u.y.n, .int .i64 u.y.d, .pointer u.y.p] ∧ Bx wx b4 98 [.int .i64 v.x.n, .int .i64 v.x.d, .pointer v.x.p, .int .i64 v.y.n, .int .i64 v.y.d, .pointer v.y.p] ∧ CF wx (.agg #[.int .i64 u.x.n, .int .i64 u.x.d, .pointer u.x.p]) ((sd C 0).l.at' (sd C 0).v.sample).1 7090 ∧ CF wx (.agg #[.int .i64 u.y.n, .int .i64 u.y.d, .pointer u.y.p]) ((sd C 0).l.at' (sd C 0).v.sample).2 7090 ∧ CF wx (.agg #[.int .i64 v.x.n, .int .i64 v.x.d, .pointer v.x.p]) (sd C 0).l.a 150 ∧ CF wx (.agg #[.int .i64 v.y.n, .int .i64 v.y.d, .pointer v.y.p]) (sd C 0).l.b 150 ∧ Bx wx w.heap.size 98 [.int .i64 0, .int .i64 0, .pointer none, .int .i64 0, .int .i64 0, .pointer none] ∧ Kp w wx)
  case first =>
   refine Ly [] [] fun w0 ew hH => ?_
   refine tk 0 hH ?_; refine tk 1 hH ?_; refine tk 2 hH ?_; refine tk 3 hH ?_; refine tk 4 hH ?_; refine tk 5 hH ?_; refine tk 6 hH ?_; refine tk 7 hH ?_; refine tk 10 hH ?_; refine tk 11 hH ?_; refine tk 12 hH ?_; refine tk 13 hH ?_
   refine Jq [(8, 21), (9, 22), (14, 27), (15, 3), (16, 4)] (fun i => match i with | 8 => [] | 9 => [8] | 14 => [9] | 15 => [] | 16 => [] | _ => []) [Bf (sd C 0).v.sample 6010, A6 ((sd C 0).l.at' (sd C 0).v.sample).1 ((sd C 0).l.at' (sd C 0).v.sample).2 7090, A6 (sd C 0).l.a (sd C 0).l.b 150, Du w0 98 [.int .i64 0, .int .i64 0, .pointer none, .int .i64 0, .int .i64 0, .pointer none], Du w0 98 [.int .i64 0, .int .i64 0, .pointer none, .int .i64 0, .int .i64 0, .pointer none]] [15, 16] 2 (by rfl) (by decide +kernel) (by decide) (by decide) (by kernel_rfl) ?_ (fun _ _ => Ex.below) hH ?_ ?_
   ·intro i hi v W h; simp only [List.mem_cons, List.not_mem_nil, or_false] at hi
    rcases hi with rfl | rfl
    all_goals exact Du.old h
   ·intro i hi f W hSw hbw hp; have kw := Kp1.mk hbw
    have kv := Gl ew (W := W)
    have kz : Kz w0 W := ⟨kv.out.size⟩
    have hSx := Ex1.mk hSw
    clear hH; simp only [List.map_cons, List.map_nil, List.mem_cons, List.not_mem_nil, or_false] at hi
    rcases hi with rfl | rfl | rfl | rfl | rfl
    ·refine ⟨_, by simp; rfl, fun K' hK => ?_⟩
     clear hp; simp only [Ai, Act.put, sA, sB, sC] at hK ⊢
     generalize f 8 = v8, f 9 = v9, f 14 = v14, f 15 = v15, f 16 = v16 at *
     go_simp; refine Ab (Y8) ?_; intros
     refine hK.out _ _ _ rfl (ii : Kp W _).out ?_ ?_
     ·exact Bf.fin rfl (by omega)
     ·exact fun h => absurd h (by decide)
    ·have h8 : Bf (sd C 0).v.sample 6010 (f 8) W := hp 8 (by decide)
     refine ⟨_, by simp; rfl, fun K' hK => ?_⟩
     clear hp; simp only [Ai, Act.put, sA, sB, sC] at hK ⊢
     generalize f 8 = v8, f 9 = v9, f 14 = v14, f 15 = v15, f 16 = v16 at *
     obtain ⟨n8, d8, p8, rfl, i8⟩ := h8; go_simp; refine Au (atC (by omega)) ?_; intros
     refine hK.out _ _ _ rfl (ii : Kp W _).out ?_ ?_
     ·exact A6.fin rfl (by omega) rfl (by omega)
     ·exact fun h => absurd h (by decide)
    ·have h9 : A6 ((sd C 0).l.at' (sd C 0).v.sample).1 ((sd C 0).l.at' (sd C 0).v.sample).2 7090 (f 9) W := hp 9 (by decide)
     refine ⟨_, by simp; rfl, fun K' hK => ?_⟩
     clear hp; simp only [Ai, Act.put, sA, sB, sC] at hK ⊢
     generalize f 8 = v8, f 9 = v9, f 14 = v14, f 15 = v15, f 16 = v16 at *
     obtain ⟨v9, rfl, i9, j9⟩ := h9; go_simp; refine Au (Ev (by omega)) ?_; intros
     refine hK.out _ _ _ rfl (ii : Kp W _).out ?_ ?_
     ·exact A6.fin rfl (by omega) rfl (by omega)
     ·exact fun h => absurd h (by decide)
    ·refine ⟨_, by simp; rfl, fun K' hK => ?_⟩
     clear hp; simp only [Ai, Act.put, sA, sB, sC] at hK ⊢
     generalize f 8 = v8, f 9 = v9, f 14 = v14, f 15 = v15, f 16 = v16 at *
     go_simp
     refine hK.out _ _ _ rfl (ii : Kp W _).out ?_ ?_
     ·exact Du.fin
     ·exact fun _ => ⟨_, rfl, Nat.le_refl _⟩
    ·refine ⟨_, by simp; rfl, fun K' hK => ?_⟩
     clear hp; simp only [Ai, Act.put, sA, sB, sC] at hK ⊢
     generalize f 8 = v8, f 9 = v9, f 14 = v14, f 15 = v15, f 16 = v16 at *
     go_simp
     refine hK.out _ _ _ rfl (ii : Kp W _).out ?_ ?_
     ·exact Du.fin
     ·exact fun _ => ⟨_, rfl, Nat.le_refl _⟩
   ·intro f W hSw hbw hf hne; have kw := Kp1.mk hbw
    have hSx := Ex1.mk hSw
    clear hH
    have kv := Gl ew (W := W)
    have kz : Kz w0 W := ⟨kv.out.size⟩
    have h8 : Bf (sd C 0).v.sample 6010 (f 8) W := hf 8 (by decide)
    have h9 : A6 ((sd C 0).l.at' (sd C 0).v.sample).1 ((sd C 0).l.at' (sd C 0).v.sample).2 7090 (f 9) W := hf 9 (by decide)
    have h14 : A6 (sd C 0).l.a (sd C 0).l.b 150 (f 14) W := hf 14 (by decide)
    have h15 : Du w0 98 [.int .i64 0, .int .i64 0, .pointer none, .int .i64 0, .int .i64 0, .pointer none] (f 15) W := hf 15 (by decide)
    have h16 : Du w0 98 [.int .i64 0, .int .i64 0, .pointer none, .int .i64 0, .int .i64 0, .pointer none] (f 16) W := hf 16 (by decide)
    have n15_16 := hne 15 16 (by decide) (by decide) (by decide) (by decide) (by decide)
    clear hf hne; simp only [Ai, lset, List.map_cons, List.map_nil, Act.put, List.setIfInBounds_toArray, List.set_cons_zero, List.set_cons_succ]
    generalize f 8 = v8, f 9 = v9, f 14 = v14, f 15 = v15, f 16 = v16 at *
    obtain ⟨n8, d8, p8, rfl, i8⟩ := h8; obtain ⟨v9, rfl, i9, j9⟩ := h9; obtain ⟨v14, rfl, i14, j14⟩ := h14; obtain ⟨b15, rfl, i15, j15, k15⟩ := h15; obtain ⟨b16, rfl, i16, j16, k16⟩ := h16
    have nw15 := Jl ew j15
    have gg15 := Jg ew k15
    have gl15 : Ge w b15 := ⟨by have h2 := j15.out; rw [ew.out] at h2; exact Nat.le_trans (ii : Kp w _).out.size h2⟩
    have nw16 := Jl ew j16
    have gg16 := Jg ew k16
    have gl16 : Ge w b16 := ⟨by have h2 := j16.out; rw [ew.out] at h2; exact Nat.le_trans (ii : Kp w _).out.size h2⟩
    have n15_16 := Xr n15_16
    have n16_15 : NeN b16 b15 := ⟨fun e => n15_16.out e.symm⟩
    have hH := hSw
    refine st 17 fun K hK => ?_; go_simp; refine hd hK fun hH => st 18 fun K hK => ?_; go_simp; refine hd hK fun hH => dn ?_; clear hH; go_wp2_with fail; go_meet; exact ⟨_, _, ⟨⟨_, _, _⟩, ⟨_, _, _⟩⟩, ⟨⟨_, _, _⟩, ⟨_, _, _⟩⟩, rfl, rfl, ii, ii, ii, ii, ii, ii, ii, ii⟩
  case rest =>
   obtain ⟨b3, b4, u, v, rfl, rfl, i1, i2, i3, i4, i5, i6, i7, i8⟩ := hcut; have kw := Kp1.mk i8.out
   go_upto_region 5 with (first
    | (go_at_call 155; refine Y4 15300 (H8 (by omega)) (by omega) ?_; intro w1 _ nf df pf _))
   go_cut [30, 31, 32] from 29 to 32 (fun x y z wx => ∃ a30 c30, x = .slice a30 (V.length - 1) c30 ∧ y = .int .i64 ((V.length - 1 : Nat) : Int) ∧ z = .int .i64 0 ∧ (0 < V.length - 1 → a30 = some ⟨g, 17, none⟩) ∧ wx = w1.alloc (.cells #[.int .i64 nf, .int .i64 df, .pointer pf] 96))
   case first =>
    have hcc := hs.capc
    by_cases hc : c = 1
    ·subst hc; go_wp2_with fail; go_meet
     exact ⟨some ⟨g, 0, none⟩, 0, by rw [show V.length - 1 = 0 by omega], by rw [show V.length - 1 = 0 by omega]; rfl, rfl, fun h => by omega, rfl⟩
    ·go_wp2_with fail; go_meet
     exact ⟨_, _, rfl, rfl, rfl, fun h => rfl, rfl⟩
   case rest =>
   obtain ⟨a30, c30, rfl, rfl, rfl, h30, rfl⟩ := hcut; go_wp2_with fail
   have n3 : NeN b3 w1.heap.size := ii
   have n4 : NeN b4 w1.heap.size := ii
   have n2 : NeN w.heap.size w1.heap.size := ii
   have g5 : Ge w w1.heap.size := ii
   have hV1 : 1 ≤ V.length := lz.out
   obtain ⟨P, hP⟩ : ∃ x, (sd C 0).l.at' (sd C 0).v.sample = x := ⟨_, rfl⟩; obtain ⟨N, hN⟩ : ∃ x, ((sd C 0).l.a, (sd C 0).l.b) = x := ⟨_, rfl⟩; obtain ⟨FA, hFA⟩ : ∃ x, Bq P N (C.drop 1) 1 = x := ⟨_, rfl⟩
   have hI2 : Hid (inner C = (P.1 + N.1 * (FA / 2), P.2 + N.2 * (FA / 2))) := Lib.hid (by rw [hI.out, ← hFA, ← hN, ← hP])
   rw [hP] at i3 i4
   have hNa : N.1 = (sd C 0).l.a := by rw [← hN]
   have hNb : N.2 = (sd C 0).l.b := by rw [← hN]
   rw [← hNa] at i5; rw [← hNb] at i6; clear hI hN hP hNa hNb
   go_loopw [32] (fun i wr => ∃ (q : Nat) (f : RV) (fr : Rat), i = .int .i64 (q : Int) ∧ q ≤ V.length - 1 ∧ Bx wr b3 98 [.int .i64 u.x.n, .int .i64 u.x.d, .pointer u.x.p, .int .i64 u.y.n, .int .i64 u.y.d, .pointer u.y.p] ∧ Bx wr b4 98 [.int .i64 v.x.n, .int .i64 v.x.d, .pointer v.x.p, .int .i64 v.y.n, .int .i64 v.y.d, .pointer v.y.p] ∧ Bx wr w1.heap.size 96 [.int .i64 f.n, .int .i64 f.d, .pointer f.p] ∧ CF wr (.agg #[.int .i64 f.n, .int .i64 f.d, .pointer f.p]) fr 15300 ∧ Hid (FA = Bq P N (C.drop (q + 1)) fr) ∧ Bx wr w.heap.size 98 [.int .i64 0, .int .i64 0, .pointer none, .int .i64 0, .int .i64 0, .pointer none] ∧ Kp w wr ∧ CF wr (.agg #[.int .i64 u.x.n, .int .i64 u.x.d, .pointer u.x.p]) P.1 7090 ∧ CF wr (.agg #[.int .i64 u.y.n, .int .i64 u.y.d, .pointer u.y.p]) P.2 7090 ∧ CF wr (.agg #[.int .i64 v.x.n, .int .i64 v.x.d, .pointer v.x.p]) N.1 150 ∧ CF wr (.agg #[.int .i64 v.y.n, .int .i64 v.y.d, .pointer v.y.p]) N.2 150) (fun i _ => V.length - (intOf i).toNat)
   case atStart => exact ⟨0, ⟨_, _, _⟩, 1, rfl, by omega, ii, ii, ii, (ii : CF _ (.agg #[.int .i64 nf, .int .i64 df, .pointer pf]) _ _).cast (by simp) (by omega), Lib.hid hFA.symm, ii, ii, ii, ii, ii, ii⟩
   case round =>
    obtain ⟨q, f, fr, rfl, hq, k1, k2, k3, k4, hE, k5, k6, k7, k8, k9, k10⟩ := hrel; have kw2 := Kp1.mk k6.out; clear hFA
    by_cases hlt : q < V.length - 1
    ·obtain rfl := h30 (by omega); have hlt' : (q : Int) < ((V.length - 1 : Nat) : Int) := (by omega); have hq1 : q + 1 < V.length := (by omega); have lq : LtN (q + 1) V.length := ⟨hq1⟩
     have ew : IntKind.i64.wrap ((q : Int) + 1) = (q : Int) + 1 := Ap (by omega) (by omega)
     have hE2 := (Qj5 (p := P) (n := N) (f := fr) (q := q + 1) (C := C) (by have := hlen.out; omega)) ▸ hE.out
     clear hE; obtain ⟨KQ, hKQ⟩ : ∃ x, (sd C (q + 1)).l.a * N.1 + (sd C (q + 1)).l.b * N.2 = x := ⟨_, rfl⟩; rw [hKQ] at hE2
     go_upto_region 8 with (first
      | refine A0 (t := 165) (x := .tmp 34) rfl rfl rfl (Qi9 (k := q) hq1) ?_)
     go_cut [8] from 36 to 40 (fun x wx => ∃ (b8 : Nat) (z : RV), x = .pointer (some ⟨b8, 0, none⟩) ∧ Bx wx b8 96 [.int .i64 z.n, .int .i64 z.d, .pointer z.p] ∧ CF wx (.agg #[.int .i64 z.n, .int .i64 z.d, .pointer z.p]) KQ 607 ∧ Bx wx b3 98 [.int .i64 u.x.n, .int .i64 u.x.d, .pointer u.x.p, .int .i64 u.y.n, .int .i64 u.y.d, .pointer u.y.p] ∧ Bx wx b4 98 [.int .i64 v.x.n, .int .i64 v.x.d, .pointer v.x.p, .int .i64 v.y.n, .int .i64 v.y.d, .pointer v.y.p] ∧ Bx wx w1.heap.size 96 [.int .i64 f.n, .int .i64 f.d, .pointer f.p] ∧ CF wx (.agg #[.int .i64 f.n, .int .i64 f.d, .pointer f.p]) fr 15300 ∧ Bx wx w.heap.size 98 [.int .i64 0, .int .i64 0, .pointer none, .int .i64 0, .int .i64 0, .pointer none] ∧ Bx wx wr.heap.size 165 [.int .i64 (wV V (q + 1)).l.x.n, .int .i64 (wV V (q + 1)).l.x.d, .pointer (wV V (q + 1)).l.x.p, .int .i64 (wV V (q + 1)).l.y.n, .int .i64 (wV V (q + 1)).l.y.d, .pointer (wV V (q + 1)).l.y.p, .int .i64 (wV V (q + 1)).l.z.n, .int .i64 (wV V (q + 1)).l.z.d, .pointer (wV V (q + 1)).l.z.p, .int .i64 (wV V (q + 1)).i.u.n, .int .i64 (wV V (q + 1)).i.u.d, .pointer (wV V (q + 1)).i.u.p, .int .i64 (wV V (q + 1)).i.v.n, .int .i64 (wV V (q + 1)).i.v.d, .pointer (wV V (q + 1)).i.v.p, .bool (wV V (q + 1)).i.nl, .bool (wV V (q + 1)).i.nh] ∧ Kp w wx ∧ CF wx (.agg #[.int .i64 u.x.n, .int .i64 u.x.d, .pointer u.x.p]) P.1 7090 ∧ CF wx (.agg #[.int .i64 u.y.n, .int .i64 u.y.d, .pointer u.y.p]) P.2 7090 ∧ CF wx (.agg #[.int .i64 v.x.n, .int .i64 v.x.d, .pointer v.x.p]) N.1 150 ∧ CF wx (.agg #[.int .i64 v.y.n, .int .i64 v.y.d, .pointer v.y.p]) N.2 150 ∧ NeN b8 w1.heap.size ∧ NeN wr.heap.size w1.heap.size)
     case first =>
      refine Ly [] [] fun w0 ew hH => ?_
      refine tk 0 hH ?_; refine tk 1 hH ?_; refine tk 3 hH ?_
      refine Jq [(2, 38), (4, 40), (5, 8)] (fun i => match i with | 2 => [] | 4 => [2] | 5 => [] | _ => []) [A6 (sd C (q + 1)).l.a (sd C (q + 1)).l.b 150, Bf KQ 607, Du w0 96 [.int .i64 0, .int .i64 0, .pointer none]] [5] 1 (by rfl) (by decide +kernel) (by decide) (by decide) (by kernel_rfl) ?_ (fun _ _ => Ex.below) hH ?_ ?_
      ·intro i hi v W h; simp only [List.mem_cons, List.not_mem_nil, or_false] at hi
       rcases hi with rfl
       all_goals exact Du.old h
      ·intro i hi f W hSw hbw hp; have kw := Kp1.mk hbw
       have kv := Gl ew (W := W)
       have kz : Kz w0 W := ⟨kv.out.size⟩
       have hSx := Ex1.mk hSw
       clear hH; simp only [List.map_cons, List.map_nil, List.mem_cons, List.not_mem_nil, or_false] at hi
       rcases hi with rfl | rfl | rfl
       ·refine ⟨_, by simp; rfl, fun K' hK => ?_⟩
        clear hp; simp only [Ai, Act.put, sA, sB, sC] at hK ⊢
        generalize f 2 = v2, f 4 = v4, f 5 = v5 at *
        go_simp; refine Au (Ev (by omega)) ?_; intros
        refine hK.out _ _ _ rfl (ii : Kp W _).out ?_ ?_
        ·exact A6.fin rfl (by omega) rfl (by omega)
        ·exact fun h => absurd h (by decide)
       ·have h2 : A6 (sd C (q + 1)).l.a (sd C (q + 1)).l.b 150 (f 2) W := hp 2 (by decide)
        refine ⟨_, by simp; rfl, fun K' hK => ?_⟩
        clear hp; simp only [Ai, Act.put, sA, sB, sC] at hK ⊢
        generalize f 2 = v2, f 4 = v4, f 5 = v5 at *
        obtain ⟨v2, rfl, i2, j2⟩ := h2; go_simp; refine Ab (Ej (by omega)) ?_; intros
        refine hK.out _ _ _ rfl (ii : Kp W _).out ?_ ?_
        ·exact Bf.fin hKQ (by omega)
        ·exact fun h => absurd h (by decide)
       ·refine ⟨_, by simp; rfl, fun K' hK => ?_⟩
        clear hp; simp only [Ai, Act.put, sA, sB, sC] at hK ⊢
        generalize f 2 = v2, f 4 = v4, f 5 = v5 at *
        go_simp
        refine hK.out _ _ _ rfl (ii : Kp W _).out ?_ ?_
        ·exact Du.fin
        ·exact fun _ => ⟨_, rfl, Nat.le_refl _⟩
      ·intro f W hSw hbw hf hne; have kw := Kp1.mk hbw
       have hSx := Ex1.mk hSw
       clear hH
       have kv := Gl ew (W := W)
       have kz : Kz w0 W := ⟨kv.out.size⟩
       have h2 : A6 (sd C (q + 1)).l.a (sd C (q + 1)).l.b 150 (f 2) W := hf 2 (by decide)
       have h4 : Bf KQ 607 (f 4) W := hf 4 (by decide)
       have h5 : Du w0 96 [.int .i64 0, .int .i64 0, .pointer none] (f 5) W := hf 5 (by decide)
       clear hf hne; simp only [Ai, lset, List.map_cons, List.map_nil, Act.put, List.setIfInBounds_toArray, List.set_cons_zero, List.set_cons_succ]
       generalize f 2 = v2, f 4 = v4, f 5 = v5 at *
       obtain ⟨v2, rfl, i2, j2⟩ := h2; obtain ⟨n4, d4, p4, rfl, i4⟩ := h4; obtain ⟨b5, rfl, i5, j5, k5⟩ := h5
       have nw5 := Jl ew j5
       have gg5 := Jg ew k5
       have gl5 : Ge w b5 := ⟨by have h2 := j5.out; rw [ew.out] at h2; exact Nat.le_trans (ii : Kp w _).out.size h2⟩
       have hH := hSw
       refine st 6 fun K hK => ?_; go_simp; refine hd hK fun hH => dn ?_; clear hH; go_wp2_with fail; go_meet; exact ⟨_, ⟨_, _, _⟩, rfl, ii, ii, ii, ii, ii, ii, ii, ii, ii, ii, ii, ii, ii, ii, ii⟩
     case rest =>
      obtain ⟨b8, z, rfl, m1, m2, m3, m4, m5, m6, m7, m8, m9, m10, m11, m12, m13, m14, m15⟩ := hcut; have kw3 := Kp1.mk m9.out
      rcases Gp KQ with ⟨hk, hv⟩ | ⟨hk, hv⟩ | ⟨hk, hv⟩
      ·have HV := Lib.hid hv
       have hE3 := (if_pos hk) ▸ hE2
       clear hE2
       go_wp2_with (first
        | (go_at_call 129; refine Aa (E8 (by omega) HV) ?_; intros))
       refine rgn [] [9] fun hH => ?_; refine tk 0 hH ?_; refine tk 1 hH ?_; refine tk 2 hH ?_; refine tk 3 hH ?_; refine tk 5 hH (st 4 fun K hK => ?_); go_simp; refine Ab (Hh (by omega)) ?_; intros; refine hd hK fun hH => st 6 fun K hK => ?_; go_simp; refine Ab (Dl (by omega)) ?_; intros; refine hd hK fun hH => st 7 fun K hK => ?_; go_simp; refine Y4 15300 (Di (by omega)) (by omega) ?_; intros; refine hd hK fun hH => st 8 fun K hK => ?_; go_simp; refine Ab (Hb (by omega)) ?_; intro w9 _ nm dm pm _; refine hd hK fun hH => st 9 fun K hK => ?_
       try rw [if_pos (by rfl)]
       refine Bs 96 (.tmp 5) (.tmp 52) rfl rfl rfl (l' := [.int .i64 nm, .int .i64 dm, .pointer pm]) rfl (by kernel_rfl) (by rfl) (RV.one1 ⟨nm, dm, pm⟩) (w := w) ?_
       intro w10 _ _ _ _ _; refine hdT hK ?_; clear hK K; refine dn ?_; clear hH; go_wp2_with fail
       go_roundw
       case rel => exact ⟨q + 1, ⟨nm, dm, pm⟩, _, by go_num, by omega, ii, ii, ii, ii, Lib.hid hE3, ii, ii, ii, ii, ii, ii⟩
       case measure => simp [intOf]; omega
      ·have HV := Lib.hid hv
       have hE3 := (if_neg (show ¬ KQ < 0 by grind)) ▸ hE2
       clear hE2
       go_wp2_with (first
        | (go_at_call 129; refine Aa (E8 (by omega) HV) ?_; intros))
       go_roundw
       case rel => exact ⟨q + 1, f, fr, by go_num, by omega, ii, ii, ii, ii, Lib.hid hE3, ii, ii, ii, ii, ii, ii⟩
       case measure => simp [intOf]; omega
      ·have HV := Lib.hid hv
       have hE3 := (if_neg (show ¬ KQ < 0 by grind)) ▸ hE2
       clear hE2
       go_wp2_with (first
        | (go_at_call 129; refine Aa (E8 (by omega) HV) ?_; intros))
       go_roundw
       case rel => exact ⟨q + 1, f, fr, by go_num, by omega, ii, ii, ii, ii, Lib.hid hE3, ii, ii, ii, ii, ii, ii⟩
       case measure => simp [intOf]; omega
    ·obtain rfl : q = V.length - 1 := by omega
     have hE2 : FA = fr := by rw [hE.out, Qij (by have := hlen.out; omega)]
     subst hE2; go_wp2_with fail; refine rgn [] [6] fun hH => ?_; refine tk 0 hH ?_; refine tk 1 hH ?_; refine tk 2 hH (st 3 fun K hK => ?_); go_simp; refine Ab (Qp (by omega)) ?_; intros; refine hd hK fun hH => st 4 fun K hK => ?_; go_simp; refine Au (K3 (by omega)) ?_; intros; refine hd hK fun hH => st 5 fun K hK => ?_; go_simp; refine Au (Ln (by omega)) ?_; intros; refine hd hK fun hH => st 6 fun K hK => ?_; go_simp; refine hdT hK ?_; clear hK K; refine dn ?_; clear hH; go_wp2; refine Ac rfl Tryz.underlying98 rfl (by kernel_rfl) rfl rfl rfl ?_; exact Cd.fin (by rw [hI2.out]) (by omega) (by rw [hI2.out]) (by omega)
end Go.Proofs.YtpnpnlmlamfpmaaGreatDoor
