import Derived.Test.YtpnpnlmlamfpmaaGreatDoorS34
import Derived.Test.YtpnpnlmlamfpmaaGreatDoorS36
import Derived.Test.YtpnpnlmlamfpmaaGreatDoorS37
namespace Go.Proofs.YtpnpnlmlamfpmaaGreatDoor
set_option linter.unusedSimpArgs false
set_option linter.unusedVariables false
set_option maxHeartbeats 4000000
set_option maxRecDepth 100000
set_option synthInstance.maxHeartbeats 1000000
set_option synthInstance.maxSize 100000
section
open Go.RowKit Cel
def gw (e : GV) : GW := ⟨⟨⟨e.nx, e.dx, e.px⟩, ⟨e.ny, e.dy, e.py⟩, ⟨e.nz, e.dz, e.pz⟩⟩, ⟨⟨e.nu, e.du, e.pu⟩, ⟨e.nv, e.dv, e.pv⟩, false, false⟩⟩
def fq (f : FG) : FQ := ⟨⟨(f.a : Rat), (f.b : Rat), (f.c : Rat)⟩, ⟨f.lo, f.hi, false, false⟩⟩
theorem Qbk (V : List GV) : F0 V = rowW (V.map gw) := by
 induction V with
 | nil => rfl
 | cons e V ih => rw [F0, List.flatMap_cons, ← F0, ih]; rfl
theorem FsG.cw {W : World} {V : List GV} {L : List FG} (h : FsG W V L 150) : Cw W (V.map gw) (L.map fq) := by
 refine ⟨by simp [h.len], fun i hi => ?_⟩
 have hi1 : i < V.length := by simpa using hi
 have hi2 : i < L.length := by rw [← h.len]; exact hi1
 have e1 : wV (V.map gw) i = gw (gV V i) := by rw [Fc hi, K7 hi1]; simp
 have e2 : sd (L.map fq) i = fq (fg L i) := by rw [Bz (by simpa using hi2), Hl hi2]; simp
 rw [e1, e2]; exact ⟨⟨h.x i hi1, h.y i hi1, h.z i hi1⟩, ⟨(h.u i hi1).cast rfl (by decide), (h.v i hi1).cast rfl (by decide), rfl, rfl⟩⟩
def Sk (L : List (Rat × Rat)) : Prop := ∀ (W : World) (V : List GV) (k : Nat), FsG W V (Bu L) k → FsG W V (Bu L) 150
structure Rok (L : List (Rat × Rat)) : Prop where
 ok : RingOK L
 tight : Sk L
 len : L.length ≤ 900
def Dw (L : List (Rat × Rat)) : List FQ := (Bu L).map fq
def Aj (R : List (List (Rat × Rat))) : List FQ := R.flatMap Dw
variable {L : List (Rat × Rat)} {R : List (List (Rat × Rat))}
theorem P1 : Aj (R ++ [L]) = Aj R ++ Dw L := by simp [Aj]
theorem Qf4 {p q : Rat × Rat} (h : p ≠ q) : EdgeOf (fq (Ag p q)) p q := by
 have hv := (G0 h).v
 have ho := Qkz h
 have hn := (G0 h).ne
 obtain ⟨a1, a2⟩ := X6 hn ho.1; obtain ⟨b1, b2⟩ := X6 hn ho.2
 refine ⟨?_, ⟨rfl, rfl⟩, (G0 h).lt, ?_, ?_⟩
 ·exact Yk hv.1
 ·exact Prod.ext a1 a2
 ·exact Prod.ext b1 b2
theorem Rp (h : RingOK L) : EdgesOf (Dw L) L := by
 have hl : (Dw L).length = L.length := by simp [Dw, Bu]
 refine ⟨hl, fun i hi => ?_⟩
 have e : sd (Dw L) i = fq (Ag (pg L i) (pg L ((i + 1) % L.length))) := by
  rw [Bz (by rw [hl]; exact hi)]; simp [Dw, Bu, Jb]
 rw [e]; exact Qf4 (h.edge i hi)
theorem Jz : ∀ {R : List (List (Rat × Rat))}, (∀ L ∈ R, RingOK L) → RingsOf (Aj R) R
 | [], _ => .nil
 | L :: R, h => by
  have := RingsOf.cons (Rp (h L (by simp))) (Jz (R := R) (fun M hM => h M (by simp [hM])))
  simpa [Aj] using this
theorem Qda (h : RingOK L) : ∀ e ∈ Dw L, e.l.ok ∧ (e.v.nl = false ∧ e.v.nh = false) := by
 intro e he; obtain ⟨i, hi, rfl⟩ := List.getElem_of_mem he
 have he2 := (Rp h).edge i (by rw [← (Rp h).len]; exact hi)
 rw [Bz hi] at he2; exact ⟨he2.ok, he2.fin⟩
theorem J5 (h : ∀ L ∈ R, RingOK L) : ∀ e ∈ Aj R, e.l.ok ∧ (e.v.nl = false ∧ e.v.nh = false) := by
 intro e he; obtain ⟨L, hL, he⟩ := List.mem_flatMap.1 he; exact Qda (h L hL) e he
variable {a : Option Addr} {c k n : Nat} {w w0 : World}
theorem Re {V : List FV} [hs : Sl w (.slice a n c) V.length (Ax V) w0] [hp : PsF w V L k] (hk : k ≤ 10) (hR : Rok L) :
  Calls Tryz.prog 40 #[.slice a n c] w (Z6 w (Dw L)) := by
 have hl : V.length = L.length := hp.len
 have h9 := hR.len
 refine (Qi3 (V := V) hk (by omega) (by rw [hl]; exact hR.ok.pos) hR.ok.edge).mono ?_
 rintro e w' ⟨a', c', U, rfl, h1, h2, h3⟩
 have hU : (U.map gw).length = U.length := List.length_map ..
 rw [Qbk, ← hU] at h1
 exact ⟨a', c', U.map gw, by rw [hU], h1, (hR.tight _ _ _ h2).cw, h3⟩
theorem Qmy : (Tryz.prog.info? 91).map (fun i => (i.zero, i.size, i.bytes)) = some (some (.slice none 0 0), 1, 24) := by kernel_rfl
def Te (w : World) (R : List (List (Rat × Rat))) (k : Nat) (e : Ending) (w' : World) : Prop := ∃ (a : Option Addr) (c : Nat) (X : List XV), e = .returned (.tuple #[.slice a X.length c, .nilIface]) ∧ Sl w' (.slice a X.length c) X.length (Fy X) w' ∧ RsF w' X R k w' ∧ Below w.heap.size w w'
theorem P0 {P : Program} {f : FuncId} {args : Array Value} {K : Ending → World → Prop} (h : Calls P f args w (Te w R k))
  (hK : ∀ w' [Kp1 w w'] (a : Option Addr) (c : Nat) (X : List XV) [Sl w' (.slice a X.length c) X.length (Fy X) w'] [RsF w' X R k w'], K (.returned (.tuple #[.slice a X.length c, .nilIface])) w') : Calls P f args w K := by
 refine h.mono ?_
 rintro e w' ⟨a, c, X, rfl, h1, h2, h3⟩
 exact @hK w' ⟨h3⟩ a c X h1 h2
theorem Hy {i : Nat} (h : i < R.length) : rg R i ∈ R := by rw [Jy h]; exact List.getElem_mem h
theorem Iq {q : Nat} (h : q < R.length) : R.take (q + 1) = R.take q ++ [rg R q] := by rw [Jy h]; exact (List.take_append_getElem h).symm
theorem Pp (R : List (List (Rat × Rat))) (q : Nat) : (Aj (R.take q)).length ≤ (Aj R).length := by
 conv => rhs; rw [← List.take_append_drop q R]
 unfold Aj; rw [List.flatMap_append, List.length_append]; omega
theorem Oh {w1 : World} {U : List YV} [hs : Sl w (.slice a n c) U.length (Bt U) w0] [hp : RsA w U R k w1] (b : k ≤ 19000) (hU : U.length ≤ 256) (hR : ∀ L ∈ R, RingOK L ∧ L.length ≤ 900) :
  Calls Tryz.prog 39 #[.slice a n c] w (Te w R (k + 2)) := by
 obtain rfl := hs.len; have hlen := Lib.hid hp.len; have hno : ¬ (256 < (U.length : Int)) := (by omega)
 have hno2 : decide (256 < (U.length : Int)) = false := decide_eq_false hno
 have HR := Lib.hid hR; clear hR
 have hp1 := hp.here
 clear hp; go_enter Tryz.func39, Tryz.ntmps39; go_wp2_with fail
 go_loopw [18, 4] (fun i o wr => ∃ (q : Nat) (X : List XV), i = .int .i64 (q : Int) ∧ q ≤ U.length ∧ Rn wr o 91 1 X.length (Fy X) w.heap.size wr ∧ (X.length = 0 → o = .slice none 0 0) ∧ Hid (X.length = q) ∧ RsF wr X (R.take q) (k + 2) wr ∧ Kp w wr) (fun i _ _ => U.length - (intOf i).toNat)
 case atStart => exact ⟨0, [], rfl, by omega, Rn.nil (by simp), fun _ => rfl, Lib.hid rfl, RsF.nil, ii⟩
 case round =>
  obtain ⟨q, X, rfl, hq, i1, i0, hXq, i2, i3⟩ := hrel; have kw := Kp1.mk i3.out
  by_cases hlt : q < U.length
  ·have hlt' : (q : Int) < U.length := by omega
   have lq : LtN q U.length := ⟨hlt⟩
   have ew : IntKind.i64.wrap ((q : Int) + 1) = (q : Int) + 1 := Ap (by omega) (by omega)
   have hqR : q < R.length := by rw [← hlen.out]; exact hlt
   have hRq := Lib.hid (HR.out _ (Hy hqR)); obtain ⟨g, rfl, hA⟩ := hs.form (by omega)
   have hVq : (yv U q).V.length ≤ 4096 := by
    have h1 := (ii : PsA w (yv U q).V (rg R q) k).len
    have := hRq.out.2
    omega
   go_wp2_with (first
    | (go_at_call 35; refine Xh (Xg (V := (yv U q).V) b hVq hRq.out.1) ?_; intro w5 _ a5 c5 V5 s5 p5)
    | (at_builtin; go_loud (refine Hp (v := u4) rfl (.tmp 30) (.tmp 32) 105 rfl Tryz.underlying105 Qmy rfl (by decide) (by decide) (by decide) ii rfl (Qlc _) (Jk ii (Qf5 X) i0) rfl (by rfl) ?h1 ?h2 (by have := hXq.out; omega) ?_); (case h1 => exact XV.one ⟨_, _, _⟩); (case h2 => exact XV.nd ⟨_, _, _⟩); intro g6 c6 w6 i9 i10 i12 i11))
   go_roundw
   case rel => exact ⟨q + 1, X ++ [⟨a5, c5, V5⟩], by go_num, by omega, Rn.cast2 ii (by simp) (by rw [Qgf]; rfl), fun e => by simp at e, Lib.hid (by rw [List.length_append, hXq.out]; rfl), by rw [Iq hqR]; exact RsF.snoc ii ii ii, ii⟩
   case measure => simp [intOf]; omega
  ·obtain rfl : q = U.length := by omega
   rw [List.take_of_length_le (by have := hlen.out; omega)] at i2; obtain ⟨a3, c3, rfl⟩ := i1.slice; go_wp2_with fail; go_ret2; exact ⟨a3, c3, X, rfl, (Sl.ofRn (h := i1)).here, ii, (ii : Kp w _).out⟩
end
section
open Go.RowKit Cel
theorem Qkm (g j : Nat) : (⟨g, 0, none⟩ : Addr).add j = ⟨g, j, none⟩ := by unfold Addr.add; split <;> simp_all
variable {r : Bool} {w w0 : World}
theorem Qg5 {i : IV} {v : IQ} {t : Rat} {nt dt : Int} {pt : Option Addr} {kt : Nat} [h : Ik w i v] [jt : CF w (.agg #[.int .i64 nt, .int .i64 dt, .pointer pt]) t kt] (hf : v.nl = false ∧ v.nh = false) (b : kt ≤ 100000) (hv : Hid (decide (inV v.lo v.hi t) = r)) :
  Calls Tryz.prog 143 #[.agg #[.int .i64 i.u.n, .int .i64 i.u.d, .pointer i.u.p, .int .i64 i.v.n, .int .i64 i.v.d, .pointer i.v.p, .bool i.nl, .bool i.nh], .agg #[.int .i64 nt, .int .i64 dt, .pointer pt]] w (fun e w' => e = .returned (.bool r) ∧ Below w.heap.size w w') := by
 have e1 : i.nl = false := h.nl.trans hf.1
 have e2 : i.nh = false := h.nh.trans hf.2
 rw [e1, e2]
 have := h.u
 have := h.v
 exact Qlf ⟨by decide, b⟩ hv
variable {a p1 : Option Addr} {d1 d2 n1 n2 : Int} {x y : Rat}
theorem Qit {v : LV} {l : LQ} {p2 : Option Addr} [hx : CF w (.agg #[.int .i64 n1, .int .i64 d1, .pointer p1]) x 8000] [hy : CF w (.agg #[.int .i64 n2, .int .i64 d2, .pointer p2]) y 8000] [h : Lk w v l] : Calls Tryz.prog 122 #[.agg #[.int .i64 v.x.n, .int .i64 v.x.d, .pointer v.x.p, .int .i64 v.y.n, .int .i64 v.y.d, .pointer v.y.p, .int .i64 v.z.n, .int .i64 v.z.d, .pointer v.z.p], .agg #[.int .i64 n1, .int .i64 d1, .pointer p1, .int .i64 n2, .int .i64 d2, .pointer p2]] w (Bk w (l.par (x, y)) 16930) := by
 have := h.x; have := h.y; have := h.z
 exact Oa (la := l.a) (lb := l.b) (lc := l.c) (k1x := 150) (k1y := 150) (k1z := 150) (k2x := 8000) (k2y := 8000) (by decide)
def onB (e : FQ) (p : Rat × Rat) : Bool := decide (sgn' (e.l.val p) = 0) && decide (inV e.v.lo e.v.hi (e.l.par p))
variable {p : Rat × Rat}
theorem T4 {e : FQ} (hf : e.v.nl = false ∧ e.v.nh = false) : onB e p = true ↔ onF e p := by
 simp only [onB, Bool.and_eq_true, decide_eq_true_iff]
 unfold onF IQ.Has inV
 rw [hf.1, hf.2]
 have : sgn' (e.l.val p) = 0 ↔ e.l.val p = 0 := by unfold sgn'; grind
 rw [this]; simp
variable {e : GW} {f : FQ}
theorem Qjp [h : Fk w e f] {p2 : Option Addr} [hx : CF w (.agg #[.int .i64 n1, .int .i64 d1, .pointer p1]) x 8000] [hy : CF w (.agg #[.int .i64 n2, .int .i64 d2, .pointer p2]) y 8000] (hf : f.v.nl = false ∧ f.v.nh = false) (hr : Hid (onB f (x, y) = r)) : Calls Tryz.prog 98 #[.agg #[.int .i64 e.l.x.n, .int .i64 e.l.x.d, .pointer e.l.x.p, .int .i64 e.l.y.n, .int .i64 e.l.y.d, .pointer e.l.y.p, .int .i64 e.l.z.n, .int .i64 e.l.z.d, .pointer e.l.z.p, .int .i64 e.i.u.n, .int .i64 e.i.u.d, .pointer e.i.u.p, .int .i64 e.i.v.n, .int .i64 e.i.v.d, .pointer e.i.v.p, .bool e.i.nl, .bool e.i.nh], .agg #[.int .i64 n1, .int .i64 d1, .pointer p1, .int .i64 n2, .int .i64 d2, .pointer p2]] w (fun z w' => z = .returned (.bool r) ∧ Below w.heap.size w w') := by
 obtain ⟨s, hs⟩ : ∃ s, sgn' (f.l.val (x, y)) = s := ⟨_, rfl⟩; have HS := Lib.hid hs; obtain ⟨u, hu⟩ : ∃ u, decide (inV f.v.lo f.v.hi (f.l.par (x, y))) = u := ⟨_, rfl⟩; have HU := Lib.hid hu
 have hr2 := hr.out
 unfold onB at hr2; rw [hs, hu] at hr2
 have hl := h.l
 have hi := h.i
 by_cases h0 : s = 0
 ·subst h0
  have hg : ((0 : Int) == 0) = true := rfl
  obtain rfl : u = r := by rw [← hr2]; rfl
  clear hs hu hr hr2; go_enter Tryz.func98, Tryz.ntmps98; go_wp2_with fail; refine rgn [] [] fun hH => ?_; refine tk 0 hH ?_; refine tk 1 hH ?_; refine tk 2 hH (st 3 fun K hK => ?_); go_simp; refine Aa (Io (by decide) HS) ?_; intros; refine hd hK fun hH => ?_; refine tk 4 hH ?_; refine tk 5 hH ?_; refine tk 6 hH ?_; refine tk 7 hH ?_; refine tk 8 hH ?_; refine tk 9 hH ?_; refine tk 10 hH (st 11 fun K hK => ?_); go_simp; refine Ab (Qit) ?_; intros; refine hd hK fun hH => st 12 fun K hK => ?_; go_simp; refine Aa (Qg5 hf (by decide) HU) ?_; intros; refine hd hK fun hH => ?_; refine tk 13 hH ?_; refine tk 14 hH (dn ?_); clear hH; go_wp2_with fail; go_ret; exact E.fin rfl
 ·have hg : (s == 0) = false := beq_eq_false_iff_ne.2 h0
  obtain rfl : false = r := by rw [← hr2, decide_eq_false h0]; rfl
  clear hs hu hr hr2; go_enter Tryz.func98, Tryz.ntmps98; go_wp2_with fail; refine rgn [] [] fun hH => ?_; refine tk 0 hH ?_; refine tk 1 hH ?_; refine tk 2 hH (st 3 fun K hK => ?_); go_simp; refine Aa (Io (by decide) HS) ?_; intros; refine hd hK fun hH => ?_; refine tk 4 hH ?_; refine tk 5 hH ?_; refine tkU 6 hH ?_; refine tkU 7 hH ?_; refine tkU 8 hH ?_; refine tkU 9 hH ?_; refine tkU 10 hH ?_; refine tkU 11 hH ?_; refine tkU 12 hH ?_; refine tk 13 hH ?_; refine tk 14 hH (dn ?_); clear hH; go_wp2_with fail; go_ret; exact E.fin rfl
variable {bp c n q : Nat}
theorem Wq [h : Fk w e f] {p2 : Option Addr} [hx : CF w (.agg #[.int .i64 n1, .int .i64 d1, .pointer p1]) x 8000] [hy : CF w (.agg #[.int .i64 n2, .int .i64 d2, .pointer p2]) y 8000] [hb : Bx w bp 98 [.int .i64 n1, .int .i64 d1, .pointer p1, .int .i64 n2, .int .i64 d2, .pointer p2]] (hf : f.v.nl = false ∧ f.v.nh = false) (hr : Hid (onB f (x, y) = r)) : Calls Tryz.prog 97 #[.agg #[.int .i64 e.l.x.n, .int .i64 e.l.x.d, .pointer e.l.x.p, .int .i64 e.l.y.n, .int .i64 e.l.y.d, .pointer e.l.y.p, .int .i64 e.l.z.n, .int .i64 e.l.z.d, .pointer e.l.z.p, .int .i64 e.i.u.n, .int .i64 e.i.u.d, .pointer e.i.u.p, .int .i64 e.i.v.n, .int .i64 e.i.v.d, .pointer e.i.v.p, .bool e.i.nl, .bool e.i.nh], .pointer (some ⟨bp, 0, none⟩)] w (fun z w' => z = .returned (.bool r) ∧ Below w.heap.size w w') := by
 go_enter Tryz.func97, Tryz.ntmps97
 go_wp2_with (first | refine A0 (t := 165) (x := .tmp 2) rfl rfl rfl (Bc Tryz.underlying165 rfl (by kernel_rfl)) ?_ | (go_at_call 98; refine Aa (Qjp (e := e) hf hr) ?_; intros))
 go_ret; exact E.fin rfl
def Cf (C : List FQ) (p : Rat × Rat) : Bool := C.any (fun f => onB f p)
variable {C : List FQ}
theorem Qaq (h : q < C.length) : Cf (C.take (q + 1)) p = (Cf (C.take q) p || onB (sd C q) p) := by
 unfold Cf; rw [List.take_succ_eq_append_getElem h, Bz h, List.any_append]; simp only [List.any_cons, List.any_nil, Bool.or_false]
theorem Qbh (h : q < C.length) (h1 : onB (sd C q) p = true) : Cf C p = true := by
 unfold Cf; rw [List.any_eq_true]
 exact ⟨_, List.getElem_mem h, by rw [← Bz h]; exact h1⟩
def Wu (w : World) (b : Bool) (e : Ending) (w' : World) : Prop := ∃ z : Int, e = .returned (.int .i64 z) ∧ decide (0 ≤ z) = b ∧ Below w.heap.size w w'
variable {K : Ending → World → Prop} {P : Program} {args : Array Value}
theorem Qmu {f : FuncId} {b : Bool} (h : Calls P f args w (Wu w b))
  (hK : ∀ w' [Kp1 w w'] (z : Int), decide (0 ≤ z) = b → K (.returned (.int .i64 z)) w') : Calls P f args w K := by
 refine h.mono ?_
 rintro e w' ⟨z, rfl, h1, h2⟩
 exact @hK w' ⟨h2⟩ z h1
variable {V : List GW}
theorem Qd3 [hs : Sl w (.slice a n c) V.length (rowW V) w0] [hp : Cw w V C] {p2 : Option Addr} [hx : CF w (.agg #[.int .i64 n1, .int .i64 d1, .pointer p1]) x 8000] [hy : CF w (.agg #[.int .i64 n2, .int .i64 d2, .pointer p2]) y 8000] [hb : Bx w bp 98 [.int .i64 n1, .int .i64 d1, .pointer p1, .int .i64 n2, .int .i64 d2, .pointer p2]] (hV : V.length ≤ 800000) (hf : ∀ f ∈ C, f.v.nl = false ∧ f.v.nh = false) :
  Calls Tryz.prog 142 #[.slice a n c, .func (.func 97) #[] #[.pointer (some ⟨bp, 0, none⟩)]] w (Wu w (Cf C (x, y))) := by
 obtain rfl := hs.len; have hlen := Lib.hid hp.len; go_enter Tryz.func142, Tryz.ntmps142; go_wp2_with fail
 go_loopw [8] (fun i wr => ∃ (q : Nat), i = .int .i64 (q : Int) ∧ q ≤ V.length ∧ Hid (Cf (C.take q) (x, y) = false) ∧ Kp w wr) (fun i _ => V.length - (intOf i).toNat)
 case atStart => exact ⟨0, rfl, by omega, Lib.hid rfl, ii⟩
 case round =>
  obtain ⟨q, rfl, hq, hE, i5⟩ := hrel; have kw := Kp1.mk i5.out
  by_cases hlt : q < V.length
  ·obtain ⟨g, rfl, hA⟩ := hs.form (by omega); have hlt' : (q : Int) < V.length := (by omega); have lq : LtN q V.length := ⟨hlt⟩
   have ew : IntKind.i64.wrap ((q : Int) + 1) = (q : Int) + 1 := Ap (by omega) (by omega)
   have hqC : q < C.length := by have := hlen.out; omega
   have hfq := hf (sd C q) (by rw [Bz hqC]; exact List.getElem_mem hqC)
   obtain ⟨r, hr⟩ : ∃ r, onB (sd C q) (x, y) = r := ⟨_, rfl⟩; have HR := Lib.hid hr
   have ht := Qaq (p := (x, y)) hqC
   rw [hE.out, hr] at ht
   have ht' := Lib.hid ht
   have hin : r = true → Cf C (x, y) = true := fun e => Qbh hqC (hr.trans e)
   clear ht hr
   cases r
   ·clear hin
    go_wp2_with (first
     | refine A0 (t := 165) (x := .tmp 14) rfl rfl rfl (C6 (k := q) hlt) ?_
     | (go_at_call 97; refine Aa (Wq (e := wV V q) (bp := bp) hfq HR) ?_; intros))
    go_roundw
    case rel => exact ⟨q + 1, by go_num, by omega, Lib.hid ht'.out, ii⟩
    case measure => simp [intOf]; omega
   ·have hin2 := Lib.hid (hin rfl); clear hin
    go_wp2_with (first
     | refine A0 (t := 165) (x := .tmp 14) rfl rfl rfl (C6 (k := q) hlt) ?_
     | (go_at_call 97; refine Aa (Wq (e := wV V q) (bp := bp) hfq HR) ?_; intros))
    go_ret
    have hz : decide (0 ≤ (q : Int)) = Cf C (x, y) := by rw [hin2.out]; simp
    exact ⟨_, rfl, hz, (ii : Kp w _).out⟩
  ·obtain rfl : q = V.length := by omega
   have h9 := hE.out
   rw [List.take_of_length_le (by have := hlen.out; omega)] at h9
   have h9' := Lib.hid h9
   clear h9 hE; go_wp2_with fail; go_ret
   exact ⟨_, rfl, by rw [h9'.out]; rfl, (ii : Kp w _).out⟩
theorem Qac [hs : Sl w (.slice a n c) V.length (rowW V) w0] [hp : Cw w V C] {p2 : Option Addr} [hx : CF w (.agg #[.int .i64 n1, .int .i64 d1, .pointer p1]) x 8000] [hy : CF w (.agg #[.int .i64 n2, .int .i64 d2, .pointer p2]) y 8000] [hb : Bx w bp 98 [.int .i64 n1, .int .i64 d1, .pointer p1, .int .i64 n2, .int .i64 d2, .pointer p2]] (hV : V.length ≤ 800000) (hf : ∀ f ∈ C, f.v.nl = false ∧ f.v.nh = false) (hr : Hid (Cf C (x, y) = r)) :
  Calls Tryz.prog 96 #[.slice a n c, .func (.func 97) #[] #[.pointer (some ⟨bp, 0, none⟩)]] w (fun e w' => e = .returned (.bool r) ∧ Below w.heap.size w w') := by
 obtain rfl := hs.len; go_enter Tryz.func96, Tryz.ntmps96
 go_wp2_with (first | (go_at_call 142; refine Qmu (Qd3 (V := V) (bp := bp) hV hf) ?_; intro w5 _ z5 hz5; rw [hr.out] at hz5; have hz6 : decide ((0 : Int) ≤ z5) = r := hz5; have hz7 := Lib.hid hz6))
 go_ret; exact E.fin (by first | rfl | (rw [← hz7.out]))
theorem onC [hs : Sl w (.slice a n c) V.length (rowW V) w0] [hp : Cw w V C] {p2 : Option Addr} [hx : CF w (.agg #[.int .i64 n1, .int .i64 d1, .pointer p1]) x 8000] [hy : CF w (.agg #[.int .i64 n2, .int .i64 d2, .pointer p2]) y 8000] (hV : V.length ≤ 800000) (hf : ∀ f ∈ C, f.v.nl = false ∧ f.v.nh = false) (hr : Hid (Cf C (x, y) = r)) :
  Calls Tryz.prog 52 #[.slice a n c, .agg #[.int .i64 n1, .int .i64 d1, .pointer p1, .int .i64 n2, .int .i64 d2, .pointer p2]] w (fun e w' => e = .returned (.bool r) ∧ Below w.heap.size w w') := by
 have hmf : ∀ (fn : Fn) (first cap : Array Value) (w : World), (Instr.makeFunc fn first cap).run Tryz.prog w = .ok (.func fn first cap) w := fun _ _ _ _ => rfl
 obtain rfl := hs.len; go_enter Tryz.func52, Tryz.ntmps52
 go_wp2_with (first | (go_at_call 96; refine Aa (Qac (V := V) (bp := w.heap.size) hV hf hr) ?_; intros))
 go_ret; exact E.fin rfl
def Zs (w : World) (C : List FQ) (e : Ending) (w' : World) : Prop := ∃ (a : Option Addr) (c : Nat) (V : List GW), e = .returned (.tuple #[.slice a V.length c, .nilIface]) ∧ Sl w' (.slice a V.length c) V.length (rowW V) w' ∧ Cw w' V C ∧ Below w.heap.size w w'
theorem Wc {f : FuncId} (h : Calls P f args w (Zs w C))
  (hK : ∀ w' [Kp1 w w'] (a : Option Addr) (c : Nat) (V : List GW) [Sl w' (.slice a V.length c) V.length (rowW V) w'] [Cw w' V C], K (.returned (.tuple #[.slice a V.length c, .nilIface])) w') : Calls P f args w K := by
 refine h.mono ?_
 rintro e w' ⟨a, c, V, rfl, h1, h2, h3⟩
 exact @hK w' ⟨h3⟩ a c V h1 h2
theorem Wf {w1 : World} {U : List YV} {R : List (List (Rat × Rat))} {k : Nat} [hs : Sl w (.slice a n c) U.length (Bt U) w0] [hp : RsA w U R k w1] (b : k ≤ 8) (hU : U.length ≤ 256) (hR : ∀ L ∈ R, Rok L) (hE : (Aj R).length ≤ 15) :
  Calls Tryz.prog 50 #[.slice a n c] w (Zs w (Aj R)) := by
 obtain rfl := hs.len; have hlen := Lib.hid hp.len; have HR := Lib.hid hR
 have hR1 : ∀ L ∈ R, RingOK L ∧ L.length ≤ 900 := fun L h => ⟨(hR L h).ok, (hR L h).len⟩
 clear hR; go_enter Tryz.func50, Tryz.ntmps50
 go_wp2_with (first
  | (go_at_call 39; refine P0 (Oh (U := U) (by omega) hU hR1) ?_; intro w5 _ a5 c5 X s5 p5))
 go_loopw [19, 6] (fun i v wr => ∃ (q : Nat) (V : List GW), i = .int .i64 (q : Int) ∧ q ≤ X.length ∧ Rn wr v 165 17 V.length (rowW V) w5.heap.size wr ∧ Cw wr V (Aj (R.take q)) ∧ Kp w5 wr) (fun i _ _ => X.length - (intOf i).toNat)
 case atStart => exact ⟨0, [], rfl, by omega, Rn.nil (by simp), Cw.nil, ii⟩
 case round =>
  obtain ⟨q, V, rfl, hq, i1, i3, i4⟩ := hrel; obtain ⟨av, cv, rfl⟩ := i1.slice; have kw := Kp1.mk i4.out; have hXl := Lib.hid p5.len
  have hV1 : V.length ≤ 15 := by rw [i3.len]; exact Nat.le_trans (Pp R q) hE
  by_cases hlt : q < X.length
  ·have hlt' : (q : Int) < X.length := by omega
   have lq : LtN q X.length := ⟨hlt⟩
   have ew : IntKind.i64.wrap ((q : Int) + 1) = (q : Int) + 1 := Ap (by have := hlen.out; have := hXl.out; omega) (by have := hlen.out; have := hXl.out; omega)
   have hqR : q < R.length := by rw [← hXl.out]; exact hlt
   have hRq := Lib.hid (HR.out _ (Hy hqR)); obtain ⟨g, rfl, hA⟩ := s5.form (by omega)
   go_wp2_with (first
    | (go_at_call 40; refine Nu (Re (V := (xv X q).V) (k := k + 2) (by omega) hRq.out) ?_; intro w7 _ a7 c7 V7 s7 p7; have h7 : V7.length = (rg R q).length := (by rw [p7.len]; simp [Dw, Bu]); have h70 : 0 < V7.length := (by rw [h7]; exact hRq.out.ok.pos); have h79 : V7.length ≤ 900 := (by rw [h7]; exact hRq.out.len); have h7h := Lib.hid h7; clear h7; obtain ⟨g7, rfl, hA7⟩ := s7.form h70)
    | (at_builtin; go_loud (refine Sp (v := .slice av V.length cv) rfl (.tmp 23) (.tmp 25) 108 rfl Tryz.underlying108 Hs rfl (by decide) (by decide) (by decide) ii rfl (F7 _) rfl (l := rowW V7) (fun j u hu => by rw [Qkm]; exact hA7.out j u hu) (Dj _) (Hn _) (F7 _) h70 (by omega) ?_); intro g8 c8 W8 k8 k8n i8))
   go_roundw
   case rel => exact ⟨q + 1, V ++ V7, by go_num, by omega, Rn.cast2 ii (by simp) (by rw [Kf]), by rw [Iq hqR, P1]; exact Cw.app ii ii, ii⟩
   case measure => simp [intOf]; omega
  ·obtain rfl : q = X.length := by omega
   rw [List.take_of_length_le (by have := hXl.out; omega)] at i3; go_wp2_with fail; go_ret2; exact ⟨av, cv, V, rfl, i1.rw'.sl.here, ii, (ii : Kp w _).out⟩
end
end Go.Proofs.YtpnpnlmlamfpmaaGreatDoor
