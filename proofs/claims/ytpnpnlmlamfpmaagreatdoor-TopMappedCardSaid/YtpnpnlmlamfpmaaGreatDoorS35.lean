import Derived.Test.YtpnpnlmlamfpmaaGreatDoorS31
import Derived.Test.YtpnpnlmlamfpmaaGreatDoorS34
namespace Go.Proofs.YtpnpnlmlamfpmaaGreatDoor
open Go.RowKit
set_option linter.unusedSimpArgs false
set_option linter.unusedVariables false
set_option maxRecDepth 100000
set_option synthInstance.maxHeartbeats 1000000
set_option synthInstance.maxSize 100000
section
set_option maxHeartbeats 40000000
def Cr (L : List (Rat × Rat)) : Prop := ∀ i, i < L.length → ∃ x y : Int, pg L i = ((x : Rat), (y : Rat)) ∧ (-8 ≤ x ∧ x ≤ 8) ∧ -8 ≤ y ∧ y ≤ 8
theorem Cr.nil : Cr [] := fun i h => by simp at h
variable {L : List (Rat × Rat)}
theorem Cr.snoc {x y : Int} (h : Cr L) (hx : -8 ≤ x ∧ x ≤ 8) (hy : -8 ≤ y ∧ y ≤ 8) : Cr (L ++ [((x : Rat), (y : Rat))]) := by
 intro i hi; rw [List.length_append, List.length_singleton] at hi
 rcases Nat.lt_or_ge i L.length with h1 | h1
 ·obtain ⟨u, v, e, b⟩ := h i h1
  refine ⟨u, v, ?_, b⟩
  rw [Aw (by simp; omega), List.getElem_append_left h1, ← Aw h1, e]
 ·have : i = L.length := by omega
  subst this
  refine ⟨x, y, ?_, hx, hy⟩
  rw [Aw (by simp)]; simp
theorem Cr.take (h : Cr L) (k : Nat) : Cr (L.take k) := by
 intro i hi
 have hl := hi
 rw [List.length_take] at hl; obtain ⟨u, v, e, b⟩ := h i (by omega)
 refine ⟨u, v, ?_, b⟩
 rw [Aw hi, List.getElem_take, ← Aw (by omega), e]
variable {V : List AV} {W w w0 : World} {c g k n t : Nat}
theorem PsQ.take (h : PsQ W V L k) (n : Nat) : PsQ W (V.take n) (L.take n) k := by
 have hl := h.len
 refine ⟨by rw [List.length_take, List.length_take, hl], fun i hi => ?_, fun i hi => ?_⟩
 all_goals
  have h2 := hi
  rw [List.length_take] at h2
  have e1 : av (V.take n) i = av V i := by rw [Dy hi, Dy (by omega), List.getElem_take]
  have e2 : pg (L.take n) i = pg L i := by rw [Aw (by rw [List.length_take]; omega), Aw (by omega), List.getElem_take]
  rw [e1, e2]
  first | exact h.x i (by omega) | exact h.y i (by omega)
variable {a : Option Addr}
theorem Sl.take {m : Nat} (h : Sl W (.slice a n c) V.length (Af V) w0) (hm : m ≤ V.length) : Sl W (.slice a m c) (V.take m).length (Af (V.take m)) w0 := by
 have e : (V.take m).length = m := by rw [List.length_take]; omega
 rw [e]
 rcases h.out with ⟨e1, e2⟩ | ⟨g, c', e1, hn, hc⟩
 ·injection e1 with e3 e4 e5
  subst e3; subst e5
  have : m = 0 := by omega
  subst this; exact ⟨.inl ⟨rfl, rfl⟩, h.lt, h.ltW⟩
 ·injection e1 with e3 e4 e5
  subst e3; subst e5
  exact ⟨.inr ⟨g, _, rfl, by omega, fun j u hu => hc j u (Ws V m j u hu)⟩, h.lt, h.ltW⟩
theorem Sl.takeI [h : Sl W (.slice a n c) V.length (Af V) w0] (m : Nat) (hm : m ≤ V.length) : Sl W (.slice a (V.take m).length c) (V.take m).length (Af (V.take m)) w0 := by
 have h9 := h.take hm
 have e : (V.take m).length = m := by rw [List.length_take]; omega
 rw [e] at h9 ⊢; exact h9
variable {v : Value}
theorem CQ.small {z : Int} (h : CQ W v ((z : Int) : Rat) k) (b : -8 ≤ z ∧ z ≤ 8) : CQ W v ((z : Int) : Rat) 4 := by
 obtain ⟨g, a, l, c, aa, ll, cc, e, ⟨h1, h2⟩, h3⟩ := h.out
 have e1 : (((z : Int) : Rat).num).natAbs = z.natAbs := by rw [show ((z : Int) : Rat).num = z from rfl]
 have e2 : ((z : Int) : Rat).den = 1 := rfl
 refine ⟨g, a, l, c, aa, ll, cc, e, ⟨h1, h2.1, ?_⟩, h3.1, ?_⟩
 ·rw [e1]; exact Nat.le_trans (Bi (k := 1) (by omega)) (by decide)
 ·rw [e2]; exact Nat.le_trans (Bi (k := 1) (by decide)) (by decide)
theorem pne {a b c d : Int} (h : ¬ (a = c ∧ b = d)) : (((a : Int) : Rat), ((b : Int) : Rat)) ≠ (((c : Int) : Rat), ((d : Int) : Rat)) := fun e => h ⟨Rat.intCast_inj.1 (congrArg Prod.fst e), Rat.intCast_inj.1 (congrArg Prod.snd e)⟩
theorem Gc {v : Int} {g1 : Bool} {a1 aa1 : Option Addr} {l1 c1 ll1 cc1 k1 : Nat} {x : Rat} [h1 : CQ w (.agg #[.bool g1, .slice a1 l1 c1, .slice aa1 ll1 cc1]) x k1] (hv : Hid (isgn x.num = v)) :
  Calls Tryz.prog 10 #[.agg #[.bool g1, .slice a1 l1 c1, .slice aa1 ll1 cc1]] w fun e w' => e = .returned (.int .i64 v) ∧ Below w.heap.size w w' := by
 rw [← hv.out]; exact Tq
theorem M9 (a b : Int) : ((a : Int) : Rat) + ((1 : Int) : Rat) * ((b : Int) : Rat) = ((a + b : Int) : Rat) := by
 rw [Rat.intCast_add, show ((1 : Int) : Rat) = 1 from rfl, Rat.one_mul]
def Xv : Value → Nat
 | .slice _ n _ => n
 | _ => 0
theorem Qlt [h : At W g (Af V) w0] (hk : 0 < V.length) : W.cell? ⟨g, 0, none⟩ = some (.bool (av V 0).gx) := by
 have := Ec h hk (j := 0) (by decide)
 rw [Nat.zero_mul, Nat.zero_add] at this; exact this
theorem Qkx [h : At W g (Af V) w0] (hk : 0 < V.length) : W.cell? ⟨g, 1, none⟩ = some (.slice (av V 0).ax (av V 0).lx (av V 0).cx) := by
 have := Ec h hk (j := 1) (by decide)
 rw [Nat.zero_mul, Nat.zero_add] at this; exact this
theorem Qgh [h : At W g (Af V) w0] (hk : 0 < V.length) : W.cell? ⟨g, 2, none⟩ = some (.slice (av V 0).aax (av V 0).llx (av V 0).ccx) := by
 have := Ec h hk (j := 2) (by decide)
 rw [Nat.zero_mul, Nat.zero_add] at this; exact this
theorem Qbm [h : At W g (Af V) w0] (hk : 0 < V.length) : W.cell? ⟨g, 3, none⟩ = some (.bool (av V 0).gy) := by
 have := Ec h hk (j := 3) (by decide)
 rw [Nat.zero_mul, Nat.zero_add] at this; exact this
theorem Qk6 [h : At W g (Af V) w0] (hk : 0 < V.length) : W.cell? ⟨g, 4, none⟩ = some (.slice (av V 0).ay (av V 0).ly (av V 0).cy) := by
 have := Ec h hk (j := 4) (by decide)
 rw [Nat.zero_mul, Nat.zero_add] at this; exact this
theorem Qjc [h : At W g (Af V) w0] (hk : 0 < V.length) : W.cell? ⟨g, 5, none⟩ = some (.slice (av V 0).aay (av V 0).lly (av V 0).ccy) := by
 have := Ec h hk (j := 5) (by decide)
 rw [Nat.zero_mul, Nat.zero_add] at this; exact this
attribute [local go_sem] Qlt Qkx Qgh Qbm Qk6 Qjc
/-- The block of a slice lies from base on. -/
class Lo (v : Value) (base : outParam Nat) : Prop where out : ∀ g, v.ownBlock = some g → base ≤ g
variable {xs : List Value}
theorem Rn.lo {e : TypeId} {sz n' base : Nat} (h : Rn W (.slice a n' c) e sz n xs base w0) (m d : Nat) : Lo (.slice a m d) base := ⟨fun g eg => (h.rw'.out.lt g (by cases a <;> simp_all [Value.ownBlock])).1⟩
theorem Lo.re {base : Nat} (h : Lo (.slice a n c) base) (m d : Nat) : Lo (.slice a m d) base := ⟨fun g eg => h.out g (by cases a <;> simp_all [Value.ownBlock])⟩
theorem Lo.new {b : Nat} [h : Gg w b] : Lo (.slice (some ⟨b, 0, none⟩) n c) w.heap.size := ⟨fun g eg => by cases eg; exact h.out⟩
instance (priority := low) Sl.tp2 {W2 : World} {base q : Nat} [k : Tp1 W W2 q] [h : Sl W v n xs w0] [o : Lo v base] [l : LtN q base] : Sl W2 v n xs w0 := h.keep k.gb.size
 (fun g e => k.gb.block _ (h.ltW g e) (fun x => by injection x with x; have := l.out; have := o.out g e; omega))
def R8 (w : World) (t : Nat) (e : Ending) (w' : World) : Prop := ∃ (a : Option Addr) (c : Nat) (V : List AV) (L : List (Rat × Rat)), e = .returned (.slice a V.length c) ∧ Sl w' (.slice a V.length c) V.length (Af V) w' ∧ PsQ w' V L 4 ∧ (RingOK L ∧ Cr L ∧ V.length ≤ 6) ∧ Lo (.slice a V.length c) w.heap.size ∧ Ct w' t ∧ Gb w w' t
theorem Qly {P : Program} {f : FuncId} {args : Array Value} {K : Ending → World → Prop} [ht : Ct w t] (h : Calls P f args w (R8 w t))
  (hK : ∀ w' [Tp1 w w' t] [Ct w' t] (a : Option Addr) (c : Nat) (V : List AV) (L : List (Rat × Rat)) [Sl w' (.slice a V.length c) V.length (Af V) w'] [PsQ w' V L 4] [Lo (.slice a V.length c) w.heap.size], Hid (RingOK L ∧ Cr L ∧ V.length ≤ 6) → K (.returned (.slice a V.length c)) w') : Calls P f args w K := by
 refine h.mono ?_
 rintro e w' ⟨a, c, V, L, rfl, hs, hp, hr, hl, hc, hb⟩
 exact @hK w' ⟨hb.out, ht.out⟩ hc a c V L hs hp hl hr
theorem R8.fin {w' : World} [hs : Sl w' (.slice a n c) V.length (Af V) w0] [hp : PsQ w' V L 4] [hc : Ct w' t] [hg : Gb w w' t] (hr : RingOK L ∧ Cr L ∧ V.length ≤ 6) (hl : Lo (.slice a n c) w.heap.size) : R8 w t (.returned (.slice a n c)) w' := by
 obtain rfl := hs.len; exact ⟨a, c, V, L, rfl, hs.here, hp, hr, hl, hc, hg⟩
theorem Qa6 [ht : Ct w t] : Calls Tryz.prog 24 #[.pointer (some ⟨t, 0, none⟩)] w (R8 w t) := by
 go_enter Tryz.func24, Tryz.ntmps24
 go_upto_region 1 with fail
 go_wp2_with fail
 refine D6 (D5 (by omega)) ?_
 intro W0 _ _ v0 v01 v02
 go_upto_block 0 with fail
 go_cut [3, 4, 5, 6, 7, 8, 9] from 13 to 68 (fun s3 s4 s5 s6 s7 s8 s9 wx => Ct wx t ∧ Gb w wx t)
 case first =>
  by_cases h0 : v0 = 0
  ·subst h0; go_wp2_with fail
   refine D6 (D5 (by omega)) ?_
   intro W1 _ _ m m1 m2
   have e1 : IntKind.i64.wrap (m - 4) = m - 4 := by rw [IntKind.wrap_i64]; omega
   go_wp2_with fail
   refine D6 (D5 (by omega)) ?_
   intro W2 _ _ n n1 n2
   have e2 : IntKind.i64.wrap (n - 4) = n - 4 := by rw [IntKind.wrap_i64]; omega
   obtain ⟨A, hA⟩ : ∃ A, m - 4 = A := ⟨_, rfl⟩; obtain ⟨B, hB⟩ : ∃ B, n - 4 = B := ⟨_, rfl⟩; rw [hA] at e1; rw [hB] at e2
   have e3 : IntKind.i64.wrap (A + 1) = A + 1 := Ap (by omega) (by omega)
   have e4 : IntKind.i64.wrap (B + 1) = B + 1 := Ap (by omega) (by omega)
   go_wp2_with fail
   refine D6 (D5 (by omega)) ?_
   intro W3 _ _ x x1 x2
   have e5 : IntKind.i64.wrap (A + 1 + x) = A + 1 + x := Ap (by omega) (by omega)
   go_wp2_with fail
   refine D6 (D5 (by omega)) ?_
   intro W4 _ _ y y1 y2
   have e6 : IntKind.i64.wrap (B + 1 + y) = B + 1 + y := Ap (by omega) (by omega)
   obtain ⟨C, hC⟩ : ∃ C, A + 1 + x = C := ⟨_, rfl⟩; obtain ⟨D, hD⟩ : ∃ D, B + 1 + y = D := ⟨_, rfl⟩
   have HH : Hid ((-4 ≤ A ∧ A ≤ 0) ∧ (-4 ≤ B ∧ B ≤ 0) ∧ (A < C ∧ C ≤ 4) ∧ (B < D ∧ D ≤ 4)) := Lib.hid (by omega)
   rw [hC] at e5; rw [hD] at e6
   have hH := HH.out
   clear hA hB; go_wp2_with fail
   refine Dk (D9 (by omega)) ?_
   intro y1 _ gx1 ax1 lx1 cx1 aax1 llx1 ccx1 gy1 ay1 ly1 cy1 aay1 lly1 ccy1 _ _; go_wp2_with fail
   refine Dk (D9 (by omega)) ?_
   intro y2 _ gx2 ax2 lx2 cx2 aax2 llx2 ccx2 gy2 ay2 ly2 cy2 aay2 lly2 ccy2 _ _; go_wp2_with fail
   refine Dk (D9 (by omega)) ?_
   intro y3 _ gx3 ax3 lx3 cx3 aax3 llx3 ccx3 gy3 ay3 ly3 cy3 aay3 lly3 ccy3 _ _; go_wp2_with fail
   refine Dk (D9 (by omega)) ?_
   intro y4 _ gx4 ax4 lx4 cx4 aax4 llx4 ccx4 gy4 ay4 ly4 cy4 aay4 lly4 ccy4 _ _; go_wp2_with fail; go_ret; exact R8.fin (V := [⟨gx1, ax1, lx1, cx1, aax1, llx1, ccx1, gy1, ay1, ly1, cy1, aay1, lly1, ccy1⟩, ⟨gx2, ax2, lx2, cx2, aax2, llx2, ccx2, gy2, ay2, ly2, cy2, aay2, lly2, ccy2⟩, ⟨gx3, ax3, lx3, cx3, aax3, llx3, ccx3, gy3, ay3, ly3, cy3, aay3, lly3, ccy3⟩, ⟨gx4, ax4, lx4, cx4, aax4, llx4, ccx4, gy4, ay4, ly4, cy4, aay4, lly4, ccy4⟩]) (L := [(((A : Int) : Rat), ((B : Int) : Rat)), (((C : Int) : Rat), ((B : Int) : Rat)), (((C : Int) : Rat), ((D : Int) : Rat)), (((A : Int) : Rat), ((D : Int) : Rat))]) (hs := Sl.ofBx (Bx.re rfl)) (hp := (PsQ.snoc (a := ⟨gx4, ax4, lx4, cx4, aax4, llx4, ccx4, gy4, ay4, ly4, cy4, aay4, lly4, ccy4⟩) (x := ((A : Int) : Rat)) (y := ((D : Int) : Rat)) (PsQ.snoc (a := ⟨gx3, ax3, lx3, cx3, aax3, llx3, ccx3, gy3, ay3, ly3, cy3, aay3, lly3, ccy3⟩) (x := ((C : Int) : Rat)) (y := ((D : Int) : Rat)) (PsQ.snoc (a := ⟨gx2, ax2, lx2, cx2, aax2, llx2, ccx2, gy2, ay2, ly2, cy2, aay2, lly2, ccy2⟩) (x := ((C : Int) : Rat)) (y := ((B : Int) : Rat)) (PsQ.snoc (a := ⟨gx1, ax1, lx1, cx1, aax1, llx1, ccx1, gy1, ay1, ly1, cy1, aay1, lly1, ccy1⟩) (x := ((A : Int) : Rat)) (y := ((B : Int) : Rat)) PsQ.nil ii ii (Nat.le_refl _) (Nat.le_refl _)) ii ii (Nat.le_refl _) (Nat.le_refl _)) ii ii (Nat.le_refl _) (Nat.le_refl _)) ii ii (Nat.le_refl _) (Nat.le_refl _))) ⟨Qgn (pne (by omega)) (pne (by omega)) (pne (by omega)) (pne (by omega)) (pne (by omega)), (Cr.snoc (Cr.snoc (Cr.snoc (Cr.snoc Cr.nil (by omega) (by omega)) (by omega) (by omega)) (by omega) (by omega)) (by omega) (by omega)), (by simp)⟩ Lo.new
  ·by_cases h1 : v0 = 1
   ·subst h1; go_wp2_with fail
    refine Oo O7 ?_
    intro W1 _ _ pgx pax plx pcx paax pllx pccx pgy pay ply pcy paay plly pccy pm pn _ _ hp; go_wp2_with fail
    refine Yf Zf ?_
    intro W2 _ _ u1 u2 u3 u4 u5 u6 u7 u8 u9 u10 u11 u12 u13 u14 um un _ _ hu; go_wp2_with fail
    refine Yf Zf ?_
    intro W3 _ _ t1 t2 t3 t4 t5 t6 t7 t8 t9 t10 t11 t12 t13 t14 vm vn _ _ hv; obtain ⟨s, hs⟩ : ∃ s, isgn (((um : Int) : Rat) * ((vn : Int) : Rat) - ((un : Int) : Rat) * ((vm : Int) : Rat)).num = s := ⟨_, rfl⟩; have HS := Lib.hid hs; clear hs
    by_cases hz : s = 0
    ·have hz1 : (s != 0) = false := by simp [hz]
     go_wp2_with (first
      | (go_at_call 59; refine A3 (Zb (by omega)) ?_; intros)
      | (go_at_call 10; refine Aa (Gc HS) ?_; intros))
     go_meet; exact ⟨ii, ii⟩
    ·have hz1 : (s != 0) = true := by simp [hz]
     go_wp2_with (first
      | (go_at_call 59; refine A3 (Zb (by omega)) ?_; intros)
      | (go_at_call 10; refine Aa (Gc HS) ?_; intros))
     have hp' := hp.out
     have hu' := hu.out
     have hv' := hv.out
     have hne : ¬ (um = vm ∧ un = vn) := by
      rintro ⟨rfl, rfl⟩
      have h2 := HS.out
      rw [show ((um : Int) : Rat) * ((un : Int) : Rat) - ((un : Int) : Rat) * ((um : Int) : Rat) = 0 by grind] at h2
      exact hz h2.symm
     refine rgn [] [] fun hH => ?_; refine tk 0 hH ?_; refine tk 1 hH ?_; refine tk 3 hH ?_; refine tk 5 hH ?_; refine tk 7 hH (st 2 fun K hK => ?_); go_simp; refine A3 (Fj (by omega)) ?_; intros; refine hd hK fun hH => st 4 fun K hK => ?_; go_simp; refine Dk (Xc (by omega)) ?_; intro y1 _ gx1 ax1 lx1 cx1 aax1 llx1 ccx1 gy1 ay1 ly1 cy1 aay1 lly1 ccy1 _ _; refine hd hK fun hH => st 6 fun K hK => ?_; go_simp; refine A3 (Fj (by omega)) ?_; intros; refine hd hK fun hH => st 8 fun K hK => ?_; go_simp; refine Dk (Xc (by omega)) ?_; intro y2 _ gx2 ax2 lx2 cx2 aax2 llx2 ccx2 gy2 ay2 ly2 cy2 aay2 lly2 ccy2 _ _; refine hd hK fun hH => st 9 fun K hK => ?_; go_simp; refine hd hK fun hH => ?_; refine tk 10 hH (dn ?_); clear hH; go_wp2; go_ret; exact R8.fin (V := [⟨pgx, pax, plx, pcx, paax, pllx, pccx, pgy, pay, ply, pcy, paay, plly, pccy⟩, ⟨gx1, ax1, lx1, cx1, aax1, llx1, ccx1, gy1, ay1, ly1, cy1, aay1, lly1, ccy1⟩, ⟨gx2, ax2, lx2, cx2, aax2, llx2, ccx2, gy2, ay2, ly2, cy2, aay2, lly2, ccy2⟩]) (L := [(((pm : Int) : Rat), ((pn : Int) : Rat)), (((pm + um : Int) : Rat), ((pn + un : Int) : Rat)), (((pm + vm : Int) : Rat), ((pn + vn : Int) : Rat))]) (hs := Sl.ofBx (Bx.re rfl)) (hp := (PsQ.snoc (a := ⟨gx2, ax2, lx2, cx2, aax2, llx2, ccx2, gy2, ay2, ly2, cy2, aay2, lly2, ccy2⟩) (x := ((pm + vm : Int) : Rat)) (y := ((pn + vn : Int) : Rat)) (PsQ.snoc (a := ⟨gx1, ax1, lx1, cx1, aax1, llx1, ccx1, gy1, ay1, ly1, cy1, aay1, lly1, ccy1⟩) (x := ((pm + um : Int) : Rat)) (y := ((pn + un : Int) : Rat)) (PsQ.snoc (a := ⟨pgx, pax, plx, pcx, paax, pllx, pccx, pgy, pay, ply, pcy, paay, plly, pccy⟩) (x := ((pm : Int) : Rat)) (y := ((pn : Int) : Rat)) PsQ.nil ii ii (Nat.le_refl _) (Nat.le_refl _)) (CQ.small (CQ.cast ii (M9 _ _) (Nat.le_refl _)) (by omega)) (CQ.small (CQ.cast ii (M9 _ _) (Nat.le_refl _)) (by omega)) (Nat.le_refl _) (Nat.le_refl _)) (CQ.small (CQ.cast ii (M9 _ _) (Nat.le_refl _)) (by omega)) (CQ.small (CQ.cast ii (M9 _ _) (Nat.le_refl _)) (by omega)) (Nat.le_refl _) (Nat.le_refl _))) ⟨No (pne (by omega)) (pne (by omega)) (pne (by omega)), (Cr.snoc (Cr.snoc (Cr.snoc Cr.nil (by omega) (by omega)) (by omega) (by omega)) (by omega) (by omega)), (by simp)⟩ Lo.new
   ·have h1' : (v0 == 1) = false := beq_false_of_ne h1
    have h0' : (v0 == 0) = false := beq_false_of_ne h0
    go_wp2_with fail; go_meet; exact ⟨ii, ii⟩
 case rest =>
  obtain ⟨c1, c2⟩ := hcut; go_wp2_with fail
  refine D6 (D5 (by omega)) ?_
  intro W1 _ _ x x1 x2
  obtain ⟨X, hX, hX6⟩ : ∃ X : Nat, 3 + x = (X : Int) ∧ X ≤ 6 := ⟨(3 + x).toNat, by omega, by omega⟩
  have e1 : IntKind.i64.wrap (3 + x) = (X : Int) := by rw [Ap (by omega) (by omega), hX]
  go_wp2_with fail
  go_loopw [11, 10] (fun i o wr => ∃ (m : Nat) (U : List AV) (N : List (Rat × Rat)), i = .int .i64 (m : Int) ∧ Rn wr o 40 6 U.length (Af U) w.heap.size wr ∧ PsQ wr U N 4 ∧ Hid (G5 N ∧ Cr N ∧ U.length + m ≤ 6) ∧ Ct wr t ∧ Gb w wr t) (fun i _ _ => (intOf i).toNat)
  case atStart => exact ⟨X, [], [], rfl, Rn.cast2 (Rn.nil (Gb.out (w := w) (g := t)).size) rfl rfl, PsQ.nil, Lib.hid ⟨G5.nil, Cr.nil, by simpa using hX6⟩, ii, ii⟩
  case round =>
   obtain ⟨m1, U, N, rfl, i1, i2, hI, i3, i4⟩ := hrel
   have kt : Tp1 w wr t := ⟨i4.out, ht.out⟩
   obtain ⟨a3, c3, rfl⟩ := i1.slice; obtain ⟨hc1, hc2⟩ := i1.cap
   cases m1 with
   | succ m =>
    have hm : 0 < ((m + 1 : Nat) : Int) := (by omega); have hm2 : (0 : Int) < (m : Int) + 1 := (by omega)
    have em : IntKind.i64.wrap ((m : Int) + 1 - 1) = (m : Int) := by rw [Ap (by have := hI.out; omega) (by have := hI.out; omega)]; omega
    have em2 : IntKind.i64.wrap (m : Int) = (m : Int) := Ap (by have := hI.out; omega) (by have := hI.out; omega)
    go_wp2_with fail
    refine Oo O7 ?_
    intro W2 _ _ pgx pax plx pcx paax pllx pccx pgy pay ply pcy paay plly pccy pm pn _ _ hp
    have hp' := hp.out
    by_cases hU : U = []
    ·subst hU
     have hN : N = [] := List.eq_nil_of_length_eq_zero i2.len.symm
     have i9 : Rn wr (.slice a3 0 c3) 40 6 0 [] w.heap.size wr := i1
     clear i1; go_wp2_with fail; refine rgn [] [] fun hH => ?_; refine tk 0 hH ?_; refine tk 1 hH ?_; refine tk 2 hH ?_; refine tk 3 hH ?_; refine tkU 4 hH ?_; refine tkU 5 hH ?_; refine tkU 6 hH ?_; refine tkU 7 hH ?_; refine tkU 8 hH ?_; refine tkU 9 hH ?_; refine tkU 10 hH ?_; refine tkU 11 hH ?_; refine tkU 12 hH ?_; refine tk 13 hH (dn ?_); clear hH
     go_wp2_with (at_builtin; go_loud (refine Hd (v := .slice a3 0 c3) rfl (.tmp 92) (.tmp 94) 77 rfl Tryz.underlying77 Fe rfl (by decide) (by decide) (by decide) ii rfl (by simp) rfl (by rfl) ?h1 ?h2 (by have := hI.out; omega) ?_); (case h1 => exact AV.one ⟨_, _, _, _, _, _, _, _, _, _, _, _, _, _⟩); (case h2 => exact AV.nd ⟨_, _, _, _, _, _, _, _, _, _, _, _, _, _⟩); intro g2 c2 w2 i9 i10 i11)
     go_roundw
     case rel => exact ⟨m, ([] : List AV) ++ [⟨pgx, pax, plx, pcx, paax, pllx, pccx, pgy, pay, ply, pcy, paay, plly, pccy⟩], N ++ [(((pm : Int) : Rat), ((pn : Int) : Rat))], by go_num, Rn.cast2 (ii) (by simp) rfl, PsQ.add (Nat.le_refl _) (Nat.le_refl _), Lib.hid ⟨G5.snoc hI.out.1 (.inl hN), Cr.snoc hI.out.2.1 (by omega) (by omega), by have := hI.out; rw [List.length_append, List.length_singleton]; omega⟩, ii, ii⟩
     case measure => simp [intOf]
    ·have hU0 : 0 < U.length := List.length_pos_iff.2 hU
     have hU1 : ¬ ((U.length : Int) = 0) := (by omega); have hU2 : ¬ (U.length = 0) := (by omega)
     have hU3 : ((U.length : Int) == 0) = false := beq_false_of_ne hU1
     obtain ⟨j, hj⟩ : ∃ j, U.length = j + 1 := ⟨U.length - 1, by omega⟩
     have hjl : j < U.length := (by omega); have lj : LtN j U.length := ⟨hjl⟩; have hjl' : (j : Int) < U.length := (by omega)
     have ej : IntKind.i64.wrap ((U.length : Int) - 1) = (j : Int) := by rw [Ap (by have := hI.out; omega) (by have := hI.out; omega)]; omega
     have HJ := Lib.hid hj; clear hj
     have i5 : Rn W2 (.slice a3 U.length c3) 40 6 U.length (Af U) w.heap.size wr := ii
     obtain ⟨g2, rfl, hA2⟩ := (Sl.ofRn (h := i5)).form hU0
     by_cases hs : pg N j = (((pm : Int) : Rat), ((pn : Int) : Rat))
     ·have HV : Hid ((decide ((pg N j).1 = ((pm : Int) : Rat)) && decide ((pg N j).2 = ((pn : Int) : Rat))) = true) := Lib.hid (by rw [hs]; simp)
      clear hs; go_wp2_with fail; refine rgn [] [] fun hH => ?_; refine tk 0 hH ?_; refine tk 1 hH ?_; refine tk 2 hH ?_; refine tk 3 hH ?_; refine tk 4 hH ?_; refine tk 5 hH ?_; refine tk 6 hH ?_; refine tk 7 hH ?_; refine tk 8 hH ?_; refine tk 9 hH ?_; refine tk 10 hH (st 11 fun K hK => ?_); go_simp; refine Aa (It (by omega) HV) ?_; intros; refine hd hK fun hH => ?_; refine tk 12 hH ?_; refine tk 13 hH (dn ?_); clear hH; go_wp2
      go_roundw
      case rel => exact ⟨m, U, N, by go_num, Rn.cast2 ii rfl rfl, ii, Lib.hid ⟨hI.out.1, hI.out.2.1, by have := hI.out; omega⟩, ii, ii⟩
      case measure => simp [intOf]
     ·have HV : Hid ((decide ((pg N j).1 = ((pm : Int) : Rat)) && decide ((pg N j).2 = ((pn : Int) : Rat))) = false) := Lib.hid (by
       rw [Prod.ext_iff] at hs
       simpa using hs)
      have HNE := Lib.hid hs; clear hs; go_wp2_with fail; refine rgn [] [] fun hH => ?_; refine tk 0 hH ?_; refine tk 1 hH ?_; refine tk 2 hH ?_; refine tk 3 hH ?_; refine tk 4 hH ?_; refine tk 5 hH ?_; refine tk 6 hH ?_; refine tk 7 hH ?_; refine tk 8 hH ?_; refine tk 9 hH ?_; refine tk 10 hH (st 11 fun K hK => ?_); go_simp; refine Aa (It (by omega) HV) ?_; intros; refine hd hK fun hH => ?_; refine tk 12 hH ?_; refine tk 13 hH (dn ?_); clear hH
      go_wp2_with (at_builtin; go_loud (refine Hd (v := .slice (some ⟨g2, 0, none⟩) U.length c3) rfl (.tmp 92) (.tmp 94) 77 rfl Tryz.underlying77 Fe rfl (by decide) (by decide) (by decide) ii rfl (F4 _) rfl (by rfl) ?h1 ?h2 (by have := hI.out; omega) ?_); (case h1 => exact AV.one ⟨_, _, _, _, _, _, _, _, _, _, _, _, _, _⟩); (case h2 => exact AV.nd ⟨_, _, _, _, _, _, _, _, _, _, _, _, _, _⟩); intro g2 c2 w2 i9 i10 i11)
      go_roundw
      case rel => exact ⟨m, U ++ [⟨pgx, pax, plx, pcx, paax, pllx, pccx, pgy, pay, ply, pcy, paay, plly, pccy⟩], N ++ [(((pm : Int) : Rat), ((pn : Int) : Rat))], by go_num, Rn.cast2 (ii) (by simp) (by rw [Rq]; rfl), PsQ.add (Nat.le_refl _) (Nat.le_refl _), Lib.hid ⟨G5.snoc hI.out.1 (.inr (by rw [show N.length - 1 = j by have := HJ.out; have := i2.len; omega]; exact HNE.out)), Cr.snoc hI.out.2.1 (by omega) (by omega), by have := hI.out; rw [List.length_append, List.length_singleton]; omega⟩, ii, ii⟩
      case measure => simp [intOf]
   | zero =>
    have hU6 : U.length ≤ 6 := by have := hI.out; omega
    have hSt := Lib.hid hI.out.1; have hIn := Lib.hid hI.out.2.1; have HLO := Lib.hid (i1.lo 0 0); clear hI
    rw [show (((0 : Nat)) : Int) = 0 from rfl]
    go_wp2_with fail
    go_loopw [10] (fun o wx => ∃ (V : List AV) (M : List (Rat × Rat)), o = .slice a3 V.length c3 ∧ Hid (V.length ≤ c3) ∧ Sl wx (.slice a3 V.length c3) V.length (Af V) wr ∧ PsQ wx V M 4 ∧ Hid (G5 M ∧ Cr M ∧ V.length ≤ 6) ∧ Kp wr wx) (fun o _ => Xv o)
    case atStart => exact ⟨U, N, rfl, Lib.hid hc1, Sl.ofRn (h := i1.here), i2, Lib.hid ⟨hSt.out, hIn.out, hU6⟩, ii⟩
    case round =>
     obtain ⟨V, M, rfl, hVc, j1, j2, hI, j3⟩ := hrel; have kx := Kp1.mk j3.out; clear i1 i2 hU6 hSt hIn hc1
     have hV6 : V.length ≤ 6 := hI.out.2.2
     by_cases h1 : 1 < V.length
     ·have h1' : 1 < (V.length : Int) := by omega
      obtain ⟨j, hj⟩ : ∃ j, V.length = j + 1 := ⟨V.length - 1, by omega⟩
      have hjl : j < V.length := (by omega); have h0l : 0 < V.length := (by omega); have lj : LtN j V.length := ⟨hjl⟩; have l0 : LtN 0 V.length := ⟨h0l⟩; have hjl' : (j : Int) < V.length := (by omega); have h0l' : (0 : Int) < V.length := (by omega)
      have ej : IntKind.i64.wrap ((V.length : Int) - 1) = (j : Int) := by rw [Ap (by omega) (by omega)]; omega
      have hjc : (j : Int) ≤ c3 := by have := hVc.out; omega
      have HJ := Lib.hid hj; clear hj; obtain ⟨g2, rfl, hA2⟩ := j1.form h0l
      by_cases hs : pg M 0 = pg M j
      ·have HV : Hid ((decide ((pg M 0).1 = (pg M j).1) && decide ((pg M 0).2 = (pg M j).2)) = true) := Lib.hid (by rw [hs]; simp)
       clear hs; go_wp2_with fail; refine rgn [] [] fun hH => ?_; refine tk 0 hH ?_; refine tk 1 hH ?_; refine tk 2 hH ?_; refine tk 3 hH ?_; refine tk 4 hH ?_; refine tk 5 hH ?_; refine tk 6 hH ?_; refine tk 7 hH ?_; refine tk 8 hH ?_; refine tk 9 hH ?_; refine tk 10 hH ?_; refine tk 11 hH ?_; refine tk 12 hH (st 13 fun K hK => ?_); go_simp; refine Aa (It (by omega) HV) ?_; intros; refine hd hK fun hH => ?_; refine tk 14 hH (dn ?_); clear hH; go_wp2
       go_roundw
       case rel => exact ⟨V.take j, M.take j, by rw [show (V.take j).length = j by rw [List.length_take]; omega], Lib.hid (by rw [List.length_take]; omega), Sl.takeI (n := V.length) j (by omega), PsQ.take ii j, Lib.hid ⟨hI.out.1.take j, hI.out.2.1.take j, by rw [List.length_take]; omega⟩, ii⟩
       case measure => (simp only [Xv]; have := HJ.out; omega)
      ·have HV : Hid ((decide ((pg M 0).1 = (pg M j).1) && decide ((pg M 0).2 = (pg M j).2)) = false) := Lib.hid (by
        rw [Prod.ext_iff] at hs
        simpa using hs)
       have HNE := Lib.hid (show ¬ pg M 0 = pg M (V.length - 1) by rw [show V.length - 1 = j by have := HJ.out; omega]; exact hs)
       clear hs; go_wp2_with fail; refine rgn [] [] fun hH => ?_; refine tk 0 hH ?_; refine tk 1 hH ?_; refine tk 2 hH ?_; refine tk 3 hH ?_; refine tk 4 hH ?_; refine tk 5 hH ?_; refine tk 6 hH ?_; refine tk 7 hH ?_; refine tk 8 hH ?_; refine tk 9 hH ?_; refine tk 10 hH ?_; refine tk 11 hH ?_; refine tk 12 hH (st 13 fun K hK => ?_); go_simp; refine Aa (It (by omega) HV) ?_; intros; refine hd hK fun hH => ?_; refine tk 14 hH (dn ?_); clear hH; have HD := Lib.hid (show True from trivial); obtain ⟨dd, hdd⟩ : ∃ dd, dsc M M.length = dd := ⟨_, rfl⟩
       have hlN := j2.len
       have hle := Q0 M M.length
       by_cases h3 : dd < 3
       ·have h3' : (dd : Int) < 3 := by omega
        have HDD := Lib.hid hdd; clear hdd hle hlN
        go_wp2_with (first
         | (go_at_call 62; refine Ni (Ql (V := V) (by omega) (by have := hI.out; omega)) ?_; intro y9 _ a9 c9; rw [HDD.out]))
        go_wp2_with fail
        refine Dk (D9 (by omega)) ?_
        intro y1 _ gx1 ax1 lx1 cx1 aax1 llx1 ccx1 gy1 ay1 ly1 cy1 aay1 lly1 ccy1 _ _; go_wp2_with fail
        refine Dk (D9 (by omega)) ?_
        intro y2 _ gx2 ax2 lx2 cx2 aax2 llx2 ccx2 gy2 ay2 ly2 cy2 aay2 lly2 ccy2 _ _; go_wp2_with fail
        refine Dk (D9 (by omega)) ?_
        intro y3 _ gx3 ax3 lx3 cx3 aax3 llx3 ccx3 gy3 ay3 ly3 cy3 aay3 lly3 ccy3 _ _; go_wp2_with fail; go_ret; exact R8.fin (V := [⟨gx1, ax1, lx1, cx1, aax1, llx1, ccx1, gy1, ay1, ly1, cy1, aay1, lly1, ccy1⟩, ⟨gx2, ax2, lx2, cx2, aax2, llx2, ccx2, gy2, ay2, ly2, cy2, aay2, lly2, ccy2⟩, ⟨gx3, ax3, lx3, cx3, aax3, llx3, ccx3, gy3, ay3, ly3, cy3, aay3, lly3, ccy3⟩]) (L := [(((0 : Int) : Rat), ((0 : Int) : Rat)), (((2 : Int) : Rat), ((0 : Int) : Rat)), (((0 : Int) : Rat), ((2 : Int) : Rat))]) (hs := Sl.ofBx (Bx.re rfl)) (hp := (PsQ.snoc (a := ⟨gx3, ax3, lx3, cx3, aax3, llx3, ccx3, gy3, ay3, ly3, cy3, aay3, lly3, ccy3⟩) (x := ((0 : Int) : Rat)) (y := ((2 : Int) : Rat)) (PsQ.snoc (a := ⟨gx2, ax2, lx2, cx2, aax2, llx2, ccx2, gy2, ay2, ly2, cy2, aay2, lly2, ccy2⟩) (x := ((2 : Int) : Rat)) (y := ((0 : Int) : Rat)) (PsQ.snoc (a := ⟨gx1, ax1, lx1, cx1, aax1, llx1, ccx1, gy1, ay1, ly1, cy1, aay1, lly1, ccy1⟩) (x := ((0 : Int) : Rat)) (y := ((0 : Int) : Rat)) PsQ.nil ii ii (Nat.le_refl _) (Nat.le_refl _)) ii ii (Nat.le_refl _) (Nat.le_refl _)) ii ii (Nat.le_refl _) (Nat.le_refl _))) ⟨No (pne (by omega)) (pne (by omega)) (pne (by omega)), (Cr.snoc (Cr.snoc (Cr.snoc Cr.nil (by omega) (by omega)) (by omega) (by omega)) (by omega) (by omega)), (by simp)⟩ Lo.new
       ·have h3' : ¬ ((dd : Int) < 3) := by omega
        have HDD := Lib.hid hdd; have HLE := Lib.hid hle; have HLN := Lib.hid hlN; clear hdd hle hlN
        go_wp2_with (first
         | (go_at_call 62; refine Ni (Ql (V := V) (by omega) (by have := hI.out; omega)) ?_; intro y9 _ a9 c9; rw [HDD.out]))
        go_ret
        exact R8.fin (V := V) (L := M) ⟨G5.ring hI.out.1 (by have := HDD.out; omega) (by rw [← HLN.out]; exact HNE.out), hI.out.2.1, hI.out.2.2⟩ (HLO.out.re _ _)
     ·have h1' : ¬ (1 < (V.length : Int)) := by omega
      have h1d : decide (1 < V.length) = false := decide_eq_false h1
      have h1e : decide (1 < (V.length : Int)) = false := decide_eq_false h1'
      go_wp2_with fail; refine rgn [] [] fun hH => ?_; refine tk 0 hH ?_; refine tk 1 hH ?_; refine tk 2 hH ?_; refine tk 3 hH ?_; refine tkU 4 hH ?_; refine tkU 5 hH ?_; refine tkU 6 hH ?_; refine tkU 7 hH ?_; refine tkU 8 hH ?_; refine tkU 9 hH ?_; refine tkU 10 hH ?_; refine tkU 11 hH ?_; refine tkU 12 hH ?_; refine tkU 13 hH ?_; refine tk 14 hH (dn ?_); clear hH; have HD := Lib.hid (show True from trivial); obtain ⟨dd, hdd⟩ : ∃ dd, dsc M M.length = dd := ⟨_, rfl⟩
      have hlN := j2.len
      have hle := Q0 M M.length
      by_cases h3 : dd < 3
      ·have h3' : (dd : Int) < 3 := by omega
       have HDD := Lib.hid hdd; clear hdd hle hlN
       go_wp2_with (first
        | (go_at_call 62; refine Ni (Ql (V := V) (by omega) (by have := hI.out; omega)) ?_; intro y9 _ a9 c9; rw [HDD.out]))
       go_wp2_with fail
       refine Dk (D9 (by omega)) ?_
       intro y1 _ gx1 ax1 lx1 cx1 aax1 llx1 ccx1 gy1 ay1 ly1 cy1 aay1 lly1 ccy1 _ _; go_wp2_with fail
       refine Dk (D9 (by omega)) ?_
       intro y2 _ gx2 ax2 lx2 cx2 aax2 llx2 ccx2 gy2 ay2 ly2 cy2 aay2 lly2 ccy2 _ _; go_wp2_with fail
       refine Dk (D9 (by omega)) ?_
       intro y3 _ gx3 ax3 lx3 cx3 aax3 llx3 ccx3 gy3 ay3 ly3 cy3 aay3 lly3 ccy3 _ _; go_wp2_with fail; go_ret; exact R8.fin (V := [⟨gx1, ax1, lx1, cx1, aax1, llx1, ccx1, gy1, ay1, ly1, cy1, aay1, lly1, ccy1⟩, ⟨gx2, ax2, lx2, cx2, aax2, llx2, ccx2, gy2, ay2, ly2, cy2, aay2, lly2, ccy2⟩, ⟨gx3, ax3, lx3, cx3, aax3, llx3, ccx3, gy3, ay3, ly3, cy3, aay3, lly3, ccy3⟩]) (L := [(((0 : Int) : Rat), ((0 : Int) : Rat)), (((2 : Int) : Rat), ((0 : Int) : Rat)), (((0 : Int) : Rat), ((2 : Int) : Rat))]) (hs := Sl.ofBx (Bx.re rfl)) (hp := (PsQ.snoc (a := ⟨gx3, ax3, lx3, cx3, aax3, llx3, ccx3, gy3, ay3, ly3, cy3, aay3, lly3, ccy3⟩) (x := ((0 : Int) : Rat)) (y := ((2 : Int) : Rat)) (PsQ.snoc (a := ⟨gx2, ax2, lx2, cx2, aax2, llx2, ccx2, gy2, ay2, ly2, cy2, aay2, lly2, ccy2⟩) (x := ((2 : Int) : Rat)) (y := ((0 : Int) : Rat)) (PsQ.snoc (a := ⟨gx1, ax1, lx1, cx1, aax1, llx1, ccx1, gy1, ay1, ly1, cy1, aay1, lly1, ccy1⟩) (x := ((0 : Int) : Rat)) (y := ((0 : Int) : Rat)) PsQ.nil ii ii (Nat.le_refl _) (Nat.le_refl _)) ii ii (Nat.le_refl _) (Nat.le_refl _)) ii ii (Nat.le_refl _) (Nat.le_refl _))) ⟨No (pne (by omega)) (pne (by omega)) (pne (by omega)), (Cr.snoc (Cr.snoc (Cr.snoc Cr.nil (by omega) (by omega)) (by omega) (by omega)) (by omega) (by omega)), (by simp)⟩ Lo.new
      ·exfalso
       omega
end
section
set_option maxHeartbeats 4000000
open Go.RowKit Cel
def vtx (l m : LQ) : Rat × Rat := ((l.b * m.c - l.c * m.b) / (l.a * m.b - l.b * m.a), (l.c * m.a - l.a * m.c) / (l.a * m.b - l.b * m.a))
def verts (C : List FQ) : List (Rat × Rat) := (List.range C.length).map fun i => vtx (sd C i).l (sd C ((i + 1) % C.length)).l
def Sv (C : List FQ) : Prop := ∀ i, i < C.length → 0 < (sd C i).l.b * -(sd C ((i + 1) % C.length)).l.a - -(sd C i).l.a * (sd C ((i + 1) % C.length)).l.b
theorem Gu (C : List FQ) : (verts C).length = C.length := by simp [verts]
theorem Qbo {C : List FQ} {q : Nat} (h : q < C.length) : (verts C).take (q + 1) = (verts C).take q ++ [vtx (sd C q).l (sd C ((q + 1) % C.length)).l] := by
 rw [List.take_succ_eq_append_getElem (by rw [Gu]; exact h)]; simp [verts]
theorem Qc3 {x : Rat} (h : 0 < x) : isgn x.num = 1 := by
 rcases Gp x with ⟨h1, _⟩ | ⟨h1, _⟩ | ⟨_, h2⟩
 ·grind
 ·grind
 ·exact h2
def Yl (w : World) (L : List (Rat × Rat)) (k : Nat) (e : Ending) (w' : World) : Prop := ∃ (a : Option Addr) (c : Nat) (V : List FV), e = .returned (.slice a V.length c) ∧ Sl w' (.slice a V.length c) V.length (Ax V) w' ∧ PsF w' V L k ∧ Lo (.slice a V.length c) w.heap.size ∧ Below w.heap.size w w'
theorem Qmn {P : Program} {f : FuncId} {args : Array Value} {w : World} {L : List (Rat × Rat)} {k : Nat} {K : Ending → World → Prop} (h : Calls P f args w (Yl w L k))
  (hK : ∀ w' [Kp1 w w'] (a : Option Addr) (c : Nat) (V : List FV) [Sl w' (.slice a V.length c) V.length (Ax V) w'] [PsF w' V L k] [Lo (.slice a V.length c) w.heap.size], K (.returned (.slice a V.length c)) w') : Calls P f args w K := by
 refine h.mono ?_
 rintro e w' ⟨a, c, V, rfl, h1, h2, h3, h4⟩
 exact @hK w' ⟨h4⟩ a c V h1 h2 h3
theorem Qh6 {w w0 : World} {a : Option Addr} {n c : Nat} {V : List GW} {C : List FQ} [hs : Sl w (.slice a n c) V.length (rowW V) w0] [hp : Cw w V C] (hT : Sv C) (hV : C.length ≤ 900) : Calls Tryz.prog 154 #[.slice a n c] w (Yl w (verts C) 2800) := by
 obtain rfl := hs.len; have hlen := Lib.hid hp.len
 have hV9 : V.length ≤ 900 := by rw [hlen.out]; exact hV
 go_enter Tryz.func154, Tryz.ntmps154; go_wp2_with fail
 go_loopw [11, 3] (fun i o wr => ∃ (q : Nat) (U : List FV), i = .int .i64 (q : Int) ∧ q ≤ V.length ∧ Rn wr o 98 6 U.length (Ax U) w.heap.size wr ∧ Hid (U.length = q) ∧ PsF wr U ((verts C).take q) 2800 ∧ Kp w wr) (fun i _ _ => V.length - (intOf i).toNat)
 case atStart => exact ⟨0, [], rfl, by omega, Rn.nil (by simp), Lib.hid rfl, PsF.nil, ii⟩
 case round =>
  obtain ⟨q, U, rfl, hq, i1, hU, i2, i5⟩ := hrel; have kw := Kp1.mk i5.out; obtain ⟨av, cv, rfl⟩ := i1.slice
  by_cases hlt : q < V.length
  ·obtain ⟨g, rfl, hA⟩ := hs.form (by omega); have hlt' : (q : Int) < V.length := (by omega); have lq : LtN q V.length := ⟨hlt⟩
   have ew : IntKind.i64.wrap ((q : Int) + 1) = (q : Int) + 1 := Ap (by omega) (by omega)
   have hqC : q < C.length := by have := hlen.out; omega
   obtain ⟨m, hm0⟩ : ∃ m, (q + 1) % V.length = m := ⟨_, rfl⟩
   have hm : m < V.length := by rw [← hm0]; exact Nat.mod_lt _ (by omega)
   have lm : LtN m V.length := ⟨hm⟩; have hm' : (m : Int) < V.length := (by omega)
   have er : ((q : Int) + 1).tmod (V.length : Int) = (m : Int) := by
    rw [← hm0, show (q : Int) + 1 = ((q + 1 : Nat) : Int) by omega]; exact (Int.ofNat_tmod _ _).symm
   have hne : ¬ ((V.length : Int) = 0) := (by omega)
   have em : IntKind.i64.wrap (m : Int) = (m : Int) := Ap (by omega) (by omega)
   have hk1 := hp.f q hlt
   have hk2 := hp.f m hm
   have hT1 := hT q hqC
   have hvt := Qbo hqC
   rw [← hlen.out, hm0] at hT1 hvt; have HS := Lib.hid (Qc3 hT1)
   have HZ : Hid (decide ((sd C q).l.a * (sd C m).l.b - (sd C q).l.b * (sd C m).l.a = 0) = false) := Lib.hid (decide_eq_false (fun e => by grind))
   have hvt' := Lib.hid hvt
   clear hT1 hvt hm0
   go_upto_region 6 with (first
    | (with_reducible refine A0 (t := 165) (x := .tmp 14) rfl rfl rfl (C6 (k := q) hlt) ?_)
    | (with_reducible refine A0 (t := 165) (x := .tmp 22) rfl rfl rfl (C6 (k := m) hm) ?_))
   have l1 := hk1.l
   have l2 := hk2.l
   have x1 := l1.x; have y1 := l1.y; have z1 := l1.z
   have x2 := l2.x; have y2 := l2.y; have z2 := l2.z
   refine rgn [] [] fun hH => ?_; refine tk 0 hH ?_; refine tk 1 hH ?_; refine tk 3 hH ?_; refine tk 4 hH ?_; refine st 2 fun K hK => ?_; go_simp; (with_reducible refine Au (Fa (by decide)) ?_); intros; refine hd hK ?_; clear hH hK K; intro hH; refine st 5 fun K hK => ?_; go_simp; (with_reducible refine Au (Fa (by decide)) ?_); intros; refine hd hK ?_; clear hH hK K; intro hH; refine st 6 fun K hK => ?_; go_simp; (with_reducible refine Ab (Gt (by decide)) ?_); intros; refine hd hK ?_; clear hH hK K; intro hH; refine st 7 fun K hK => ?_; go_simp; (with_reducible refine Aa (E8 (by decide) HS) ?_); intros; refine hd hK ?_; clear hH hK K; intro hH; refine tk 8 hH ?_; refine dn ?_; clear hH
   skip
   go_wp2_with (first
    | (go_at_call 199; go_loud (with_reducible refine Qkg (Qhv (by decide) HZ) ?_); intro w9 _ nx dx px ny dy py i8 i9)
    | (at_builtin; go_loud (refine Hd (v := .slice av U.length cv) rfl (.tmp 41) (.tmp 43) 90 rfl Tryz.underlying90 Rz rfl (by decide) (by decide) (by decide) ii rfl (Sg _) rfl (by rfl) ?h1 ?h2 (by have := hU.out; omega) ?_); (case h1 => exact FV.one ⟨_, _, _, _, _, _⟩); (case h2 => exact FV.nd ⟨_, _, _, _, _, _⟩); intro g2 c2 w2 j9 j10 j11))
   go_roundw
   case rel => exact ⟨q + 1, U ++ [⟨nx, dx, px, ny, dy, py⟩], by go_num, by omega, Rn.cast2 (ii) (by simp) (by rw [Pb]; rfl), Lib.hid (by rw [List.length_append, hU.out]; rfl), by rw [hvt'.out]; exact PsF.add (by decide) (by decide), ii⟩
   case measure => simp [intOf]; omega
  ·obtain rfl : q = V.length := by omega
   rw [List.take_of_length_le (by rw [Gu]; have := hlen.out; omega)] at i2
   have s3 : Sl wr (.slice av U.length cv) U.length (Ax U) wr := i1.rw'.sl
   go_wp2_with fail; go_ret; exact ⟨av, cv, U, rfl, s3, i2, i1.lo _ _, (ii : Kp w _).out⟩
end
end Go.Proofs.YtpnpnlmlamfpmaaGreatDoor
