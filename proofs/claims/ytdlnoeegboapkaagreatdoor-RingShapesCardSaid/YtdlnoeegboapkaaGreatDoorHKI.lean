/-
  Texts of this claim, joined: Rg8.
-/
import Derived.Test.YtdlnoeegboapkaaGreatDoorCM
import Derived.Test.YtdlnoeegboapkaaGreatDoorHKA
import Derived.Deep.CutRange
import Derived.Deep.CutBlock
namespace Go.Proofs.YtdlnoeegboapkaaGreatDoor
open Go.RowKit
set_option linter.unusedVariables false
set_option maxHeartbeats 40000000
set_option maxRecDepth 100000
set_option synthInstance.maxHeartbeats 1000000
set_option synthInstance.maxSize 100000
section
def IntL (L : List (Rat × Rat)) : Prop := ∀ i, i < L.length → ∃ x y : Int, pg L i = ((x : Rat), (y : Rat)) ∧ (-8 ≤ x ∧ x ≤ 8) ∧ -8 ≤ y ∧ y ≤ 8
theorem IntL.nil : IntL [] := fun i h => by simp at h
theorem IntL.snoc {L : List (Rat × Rat)} {x y : Int} (h : IntL L) (hx : -8 ≤ x ∧ x ≤ 8) (hy : -8 ≤ y ∧ y ≤ 8) : IntL (L ++ [((x : Rat), (y : Rat))]) := by
  intro i hi; rw [List.length_append, List.length_singleton] at hi
  rcases Nat.lt_or_ge i L.length with h1 | h1
  · obtain ⟨u, v, e, b⟩ := h i h1
    refine ⟨u, v, ?_, b⟩
    rw [pg_get (by simp; omega), List.getElem_append_left h1, ← pg_get h1, e]
  · have : i = L.length := by omega
    subst this
    refine ⟨x, y, ?_, hx, hy⟩
    rw [pg_get (by simp)]; simp
theorem IntL.take {L : List (Rat × Rat)} (h : IntL L) (k : Nat) : IntL (L.take k) := by
  intro i hi
  have hl := hi
  rw [List.length_take] at hl; obtain ⟨u, v, e, b⟩ := h i (by omega)
  refine ⟨u, v, ?_, b⟩
  rw [pg_get hi, List.getElem_take, ← pg_get (by omega), e]
theorem PsQ.take {W : World} {V : List AV} {L : List (Rat × Rat)} {k : Nat} (h : PsQ W V L k) (n : Nat) : PsQ W (V.take n) (L.take n) k := by
  have hl := h.len
  refine ⟨by rw [List.length_take, List.length_take, hl], fun i hi => ?_, fun i hi => ?_⟩
  all_goals
    have h2 := hi
    rw [List.length_take] at h2
    have e1 : av (V.take n) i = av V i := by rw [av_get hi, av_get (by omega), List.getElem_take]
    have e2 : pg (L.take n) i = pg L i := by rw [pg_get (by rw [List.length_take]; omega), pg_get (by omega), List.getElem_take]
    rw [e1, e2]
    first | exact h.x i (by omega) | exact h.y i (by omega)
theorem Sl.take {W w0 : World} {a : Option Addr} {n c m : Nat} {V : List AV} (h : Sl W (.slice a n c) V.length (rowA V) w0) (hm : m ≤ V.length) : Sl W (.slice a m c) (V.take m).length (rowA (V.take m)) w0 := by
  have e : (V.take m).length = m := by rw [List.length_take]; omega
  rw [e]
  rcases h.out with ⟨e1, e2⟩ | ⟨g, c', e1, hn, hc⟩
  · injection e1 with e3 e4 e5
    subst e3; subst e5
    have : m = 0 := by omega
    subst this; exact ⟨.inl ⟨rfl, rfl⟩, h.lt, h.ltW⟩
  · injection e1 with e3 e4 e5
    subst e3; subst e5
    exact ⟨.inr ⟨g, _, rfl, by omega, fun j u hu => hc j u (rowA_take V m j u hu)⟩, h.lt, h.ltW⟩
theorem Sl.takeI {W w0 : World} {a : Option Addr} {n c : Nat} {V : List AV} [h : Sl W (.slice a n c) V.length (rowA V) w0] (m : Nat) (hm : m ≤ V.length) : Sl W (.slice a (V.take m).length c) (V.take m).length (rowA (V.take m)) w0 := by
  have h9 := h.take hm
  have e : (V.take m).length = m := by rw [List.length_take]; omega
  rw [e] at h9 ⊢; exact h9
theorem CQ.small {W : World} {v : Value} {z : Int} {k : Nat} (h : CQ W v ((z : Int) : Rat) k) (b : -8 ≤ z ∧ z ≤ 8) : CQ W v ((z : Int) : Rat) 4 := by
  obtain ⟨g, a, l, c, aa, ll, cc, e, ⟨h1, h2⟩, h3⟩ := h.out
  have e1 : (((z : Int) : Rat).num).natAbs = z.natAbs := by rw [show ((z : Int) : Rat).num = z from rfl]
  have e2 : ((z : Int) : Rat).den = 1 := rfl
  refine ⟨g, a, l, c, aa, ll, cc, e, ⟨h1, h2.1, ?_⟩, h3.1, ?_⟩
  · rw [e1]; exact Nat.le_trans (nf_len_le (k := 1) (by omega)) (by decide)
  · rw [e2]; exact Nat.le_trans (nf_len_le (k := 1) (by decide)) (by decide)
theorem pne {a b c d : Int} (h : ¬ (a = c ∧ b = d)) : (((a : Int) : Rat), ((b : Int) : Rat)) ≠ (((c : Int) : Rat), ((d : Int) : Rat)) := fun e => h ⟨Rat.intCast_inj.1 (congrArg Prod.fst e), Rat.intCast_inj.1 (congrArg Prod.snd e)⟩
theorem numSW {w : World} {v : Int} {g1 : Bool} {a1 aa1 : Option Addr} {l1 c1 ll1 cc1 k1 : Nat} {x : Rat} [h1 : CQ w (.agg #[.bool g1, .slice a1 l1 c1, .slice aa1 ll1 cc1]) x k1] (hv : Hid (isgn x.num = v)) :
    Calls Tryz.prog 54 #[.agg #[.bool g1, .slice a1 l1 c1, .slice aa1 ll1 cc1]] w fun e w' => e = .returned (.int .i64 v) ∧ Below w.heap.size w w' := by
  rw [← hv.out]; exact numSC
theorem one_mul_add (a b : Int) : ((a : Int) : Rat) + ((1 : Int) : Rat) * ((b : Int) : Rat) = ((a + b : Int) : Rat) := by
  rw [Rat.intCast_add, show ((1 : Int) : Rat) = 1 from rfl, Rat.one_mul]
def slLen : Value → Nat
  | .slice _ n _ => n
  | _ => 0
theorem cell_az0 {W w0 : World} {g : Nat} {V : List AV} [h : At W g (rowA V) w0] (hk : 0 < V.length) : W.cell? ⟨g, 0, none⟩ = some (.bool (av V 0).gx) := by
  have := at_a h hk (j := 0) (by decide)
  rw [Nat.zero_mul, Nat.zero_add] at this; exact this
theorem cell_az1 {W w0 : World} {g : Nat} {V : List AV} [h : At W g (rowA V) w0] (hk : 0 < V.length) : W.cell? ⟨g, 1, none⟩ = some (.slice (av V 0).ax (av V 0).lx (av V 0).cx) := by
  have := at_a h hk (j := 1) (by decide)
  rw [Nat.zero_mul, Nat.zero_add] at this; exact this
theorem cell_az2 {W w0 : World} {g : Nat} {V : List AV} [h : At W g (rowA V) w0] (hk : 0 < V.length) : W.cell? ⟨g, 2, none⟩ = some (.slice (av V 0).aax (av V 0).llx (av V 0).ccx) := by
  have := at_a h hk (j := 2) (by decide)
  rw [Nat.zero_mul, Nat.zero_add] at this; exact this
theorem cell_az3 {W w0 : World} {g : Nat} {V : List AV} [h : At W g (rowA V) w0] (hk : 0 < V.length) : W.cell? ⟨g, 3, none⟩ = some (.bool (av V 0).gy) := by
  have := at_a h hk (j := 3) (by decide)
  rw [Nat.zero_mul, Nat.zero_add] at this; exact this
theorem cell_az4 {W w0 : World} {g : Nat} {V : List AV} [h : At W g (rowA V) w0] (hk : 0 < V.length) : W.cell? ⟨g, 4, none⟩ = some (.slice (av V 0).ay (av V 0).ly (av V 0).cy) := by
  have := at_a h hk (j := 4) (by decide)
  rw [Nat.zero_mul, Nat.zero_add] at this; exact this
theorem cell_az5 {W w0 : World} {g : Nat} {V : List AV} [h : At W g (rowA V) w0] (hk : 0 < V.length) : W.cell? ⟨g, 5, none⟩ = some (.slice (av V 0).aay (av V 0).lly (av V 0).ccy) := by
  have := at_a h hk (j := 5) (by decide)
  rw [Nat.zero_mul, Nat.zero_add] at this; exact this
attribute [local go_sem] cell_az0 cell_az1 cell_az2 cell_az3 cell_az4 cell_az5
/-- The block of a slice lies from base on. -/
class Lo (v : Value) (base : outParam Nat) : Prop where out : ∀ g, v.ownBlock = some g → base ≤ g
theorem Rn.lo {W w0 : World} {a : Option Addr} {e : TypeId} {sz n n' c base : Nat} {xs : List Value} (h : Rn W (.slice a n' c) e sz n xs base w0) (m d : Nat) : Lo (.slice a m d) base := ⟨fun g eg => (h.rw'.out.lt g (by cases a <;> simp_all [Value.ownBlock])).1⟩
theorem Lo.re {a : Option Addr} {n c base : Nat} (h : Lo (.slice a n c) base) (m d : Nat) : Lo (.slice a m d) base := ⟨fun g eg => h.out g (by cases a <;> simp_all [Value.ownBlock])⟩
theorem Lo.new {w : World} {b n c : Nat} [h : Gg w b] : Lo (.slice (some ⟨b, 0, none⟩) n c) w.heap.size := ⟨fun g eg => by cases eg; exact h.out⟩
def RingRet (w : World) (t : Nat) (e : Ending) (w' : World) : Prop := ∃ (a : Option Addr) (c : Nat) (V : List AV) (L : List (Rat × Rat)), e = .returned (.slice a V.length c) ∧ Sl w' (.slice a V.length c) V.length (rowA V) w' ∧ PsQ w' V L 4 ∧ (RingOK L ∧ IntL L ∧ V.length ≤ 6) ∧ Lo (.slice a V.length c) w.heap.size ∧ Ct w' t ∧ Gb w w' t
theorem Calls.cRing {P : Program} {f : FuncId} {args : Array Value} {w : World} {t : Nat} {K : Ending → World → Prop} [ht : Ct w t] (h : Calls P f args w (RingRet w t))
    (hK : ∀ w' [Tp1 w w' t] [Ct w' t] (a : Option Addr) (c : Nat) (V : List AV) (L : List (Rat × Rat)) [Sl w' (.slice a V.length c) V.length (rowA V) w'] [PsQ w' V L 4] [Lo (.slice a V.length c) w.heap.size], Hid (RingOK L ∧ IntL L ∧ V.length ≤ 6) → K (.returned (.slice a V.length c)) w') : Calls P f args w K := by
  refine h.mono ?_
  rintro e w' ⟨a, c, V, L, rfl, hs, hp, hr, hl, hc, hb⟩
  exact @hK w' ⟨hb.out, ht.out⟩ hc a c V L hs hp hl hr
theorem RingRet.fin {w w' w0 : World} {t n c : Nat} {a : Option Addr} {V : List AV} {L : List (Rat × Rat)} [hs : Sl w' (.slice a n c) V.length (rowA V) w0] [hp : PsQ w' V L 4] [hc : Ct w' t] [hg : Gb w w' t] (hr : RingOK L ∧ IntL L ∧ V.length ≤ 6) (hl : Lo (.slice a n c) w.heap.size) : RingRet w t (.returned (.slice a n c)) w' := by
  obtain rfl := hs.len; exact ⟨a, c, V, L, rfl, hs.here, hp, hr, hl, hc, hg⟩
theorem tapeRingC {w : World} {t : Nat} [ht : Ct w t] : Calls Tryz.prog 25 #[.pointer (some ⟨t, 0, none⟩)] w (RingRet w t) := by
  go_enter Tryz.func25, Tryz.ntmps25
  go_upto_region 1 with fail
  go_wp2_with fail
  with_reducible refine Calls.cNext (nextC (by omega)) ?_
  intro W0 _ _ v0 v01 v02
  go_upto_block 0 with fail
  go_cut [3, 4, 5, 6, 7, 8, 9] from 13 to 68 (fun s3 s4 s5 s6 s7 s8 s9 wx => Ct wx t ∧ Gb w wx t)
  case first =>
    by_cases h0 : v0 = 0
    · subst h0; go_wp2_with fail
      with_reducible refine Calls.cNext (nextC (by omega)) ?_
      intro W1 _ _ m m1 m2
      have e1 : IntKind.i64.wrap (m - 4) = m - 4 := by rw [IntKind.wrap_i64]; omega
      go_wp2_with fail
      with_reducible refine Calls.cNext (nextC (by omega)) ?_
      intro W2 _ _ n n1 n2
      have e2 : IntKind.i64.wrap (n - 4) = n - 4 := by rw [IntKind.wrap_i64]; omega
      obtain ⟨A, hA⟩ : ∃ A, m - 4 = A := ⟨_, rfl⟩; obtain ⟨B, hB⟩ : ∃ B, n - 4 = B := ⟨_, rfl⟩; rw [hA] at e1; rw [hB] at e2
      have e3 : IntKind.i64.wrap (A + 1) = A + 1 := wr_in (by omega) (by omega)
      have e4 : IntKind.i64.wrap (B + 1) = B + 1 := wr_in (by omega) (by omega)
      go_wp2_with fail
      with_reducible refine Calls.cNext (nextC (by omega)) ?_
      intro W3 _ _ x x1 x2
      have e5 : IntKind.i64.wrap (A + 1 + x) = A + 1 + x := wr_in (by omega) (by omega)
      go_wp2_with fail
      with_reducible refine Calls.cNext (nextC (by omega)) ?_
      intro W4 _ _ y y1 y2
      have e6 : IntKind.i64.wrap (B + 1 + y) = B + 1 + y := wr_in (by omega) (by omega)
      obtain ⟨C, hC⟩ : ∃ C, A + 1 + x = C := ⟨_, rfl⟩; obtain ⟨D, hD⟩ : ∃ D, B + 1 + y = D := ⟨_, rfl⟩
      have HH : Hid ((-4 ≤ A ∧ A ≤ 0) ∧ (-4 ≤ B ∧ B ≤ 0) ∧ (A < C ∧ C ≤ 4) ∧ (B < D ∧ D ≤ 4)) := Lib.hid (by omega)
      rw [hC] at e5; rw [hD] at e6
      have hH := HH.out
      clear hA hB; go_wp2_with fail
      with_reducible refine Calls.cPQ (refXyC (by omega)) ?_
      intro y1 _ gx1 ax1 lx1 cx1 aax1 llx1 ccx1 gy1 ay1 ly1 cy1 aay1 lly1 ccy1 _ _; go_wp2_with fail
      with_reducible refine Calls.cPQ (refXyC (by omega)) ?_
      intro y2 _ gx2 ax2 lx2 cx2 aax2 llx2 ccx2 gy2 ay2 ly2 cy2 aay2 lly2 ccy2 _ _; go_wp2_with fail
      with_reducible refine Calls.cPQ (refXyC (by omega)) ?_
      intro y3 _ gx3 ax3 lx3 cx3 aax3 llx3 ccx3 gy3 ay3 ly3 cy3 aay3 lly3 ccy3 _ _; go_wp2_with fail
      with_reducible refine Calls.cPQ (refXyC (by omega)) ?_
      intro y4 _ gx4 ax4 lx4 cx4 aax4 llx4 ccx4 gy4 ay4 ly4 cy4 aay4 lly4 ccy4 _ _; go_wp2_with fail; go_ret; exact RingRet.fin (V := [⟨gx1, ax1, lx1, cx1, aax1, llx1, ccx1, gy1, ay1, ly1, cy1, aay1, lly1, ccy1⟩, ⟨gx2, ax2, lx2, cx2, aax2, llx2, ccx2, gy2, ay2, ly2, cy2, aay2, lly2, ccy2⟩, ⟨gx3, ax3, lx3, cx3, aax3, llx3, ccx3, gy3, ay3, ly3, cy3, aay3, lly3, ccy3⟩, ⟨gx4, ax4, lx4, cx4, aax4, llx4, ccx4, gy4, ay4, ly4, cy4, aay4, lly4, ccy4⟩]) (L := [(((A : Int) : Rat), ((B : Int) : Rat)), (((C : Int) : Rat), ((B : Int) : Rat)), (((C : Int) : Rat), ((D : Int) : Rat)), (((A : Int) : Rat), ((D : Int) : Rat))]) (hs := Sl.ofBx (Bx.re rfl)) (hp := (PsQ.snoc (a := ⟨gx4, ax4, lx4, cx4, aax4, llx4, ccx4, gy4, ay4, ly4, cy4, aay4, lly4, ccy4⟩) (x := ((A : Int) : Rat)) (y := ((D : Int) : Rat)) (PsQ.snoc (a := ⟨gx3, ax3, lx3, cx3, aax3, llx3, ccx3, gy3, ay3, ly3, cy3, aay3, lly3, ccy3⟩) (x := ((C : Int) : Rat)) (y := ((D : Int) : Rat)) (PsQ.snoc (a := ⟨gx2, ax2, lx2, cx2, aax2, llx2, ccx2, gy2, ay2, ly2, cy2, aay2, lly2, ccy2⟩) (x := ((C : Int) : Rat)) (y := ((B : Int) : Rat)) (PsQ.snoc (a := ⟨gx1, ax1, lx1, cx1, aax1, llx1, ccx1, gy1, ay1, ly1, cy1, aay1, lly1, ccy1⟩) (x := ((A : Int) : Rat)) (y := ((B : Int) : Rat)) PsQ.nil inferInstance inferInstance (Nat.le_refl _) (Nat.le_refl _)) inferInstance inferInstance (Nat.le_refl _) (Nat.le_refl _)) inferInstance inferInstance (Nat.le_refl _) (Nat.le_refl _)) inferInstance inferInstance (Nat.le_refl _) (Nat.le_refl _))) ⟨ring4 (pne (by omega)) (pne (by omega)) (pne (by omega)) (pne (by omega)) (pne (by omega)), (IntL.snoc (IntL.snoc (IntL.snoc (IntL.snoc IntL.nil (by omega) (by omega)) (by omega) (by omega)) (by omega) (by omega)) (by omega) (by omega)), (by simp)⟩ Lo.new
    · by_cases h1 : v0 = 1
      · subst h1; go_wp2_with fail
        with_reducible refine Calls.cTPI tapePI ?_
        intro W1 _ _ pgx pax plx pcx paax pllx pccx pgy pay ply pcy paay plly pccy pm pn _ _ hp; go_wp2_with fail
        with_reducible refine Calls.cTVI tapeVI ?_
        intro W2 _ _ u1 u2 u3 u4 u5 u6 u7 u8 u9 u10 u11 u12 u13 u14 um un _ _ hu; go_wp2_with fail
        with_reducible refine Calls.cTVI tapeVI ?_
        intro W3 _ _ t1 t2 t3 t4 t5 t6 t7 t8 t9 t10 t11 t12 t13 t14 vm vn _ _ hv; obtain ⟨s, hs⟩ : ∃ s, isgn (((um : Int) : Rat) * ((vn : Int) : Rat) - ((un : Int) : Rat) * ((vm : Int) : Rat)).num = s := ⟨_, rfl⟩; have HS := Lib.hid hs; clear hs
        by_cases hz : s = 0
        · have hz1 : (s != 0) = false := by simp [hz]
          go_wp2_with (first
            | (go_at_call 81; (with_reducible refine Calls.cQ (refCrossC (by omega)) ?_); intros)
            | (go_at_call 54; (with_reducible refine Calls.cE (numSW HS) ?_); intros))
          go_meet; exact ⟨inferInstance, inferInstance⟩
        · have hz1 : (s != 0) = true := by simp [hz]
          go_wp2_with (first
            | (go_at_call 81; (with_reducible refine Calls.cQ (refCrossC (by omega)) ?_); intros)
            | (go_at_call 54; (with_reducible refine Calls.cE (numSW HS) ?_); intros))
          have hp' := hp.out
          have hu' := hu.out
          have hv' := hv.out
          have hne : ¬ (um = vm ∧ un = vn) := by
            rintro ⟨rfl, rfl⟩
            have h2 := HS.out
            rw [show ((um : Int) : Rat) * ((un : Int) : Rat) - ((un : Int) : Rat) * ((um : Int) : Rat) = 0 by grind] at h2
            exact hz h2.symm
          refine rgn [] [] fun hH => ?_; refine tk 0 hH ?_; refine tk 1 hH ?_; refine tk 3 hH ?_; refine tk 5 hH ?_; refine tk 7 hH ?_; refine st 2 fun K hK => ?_; go_simp; (with_reducible refine Calls.cQ (numOfC (by omega)) ?_); intros; refine hd hK ?_; clear hH hK K; intro hH; refine st 4 fun K hK => ?_; go_simp; (with_reducible refine Calls.cPQ (refPAddC (by omega)) ?_); intro y1 _ gx1 ax1 lx1 cx1 aax1 llx1 ccx1 gy1 ay1 ly1 cy1 aay1 lly1 ccy1 _ _; refine hd hK ?_; clear hH hK K; intro hH; refine st 6 fun K hK => ?_; go_simp; (with_reducible refine Calls.cQ (numOfC (by omega)) ?_); intros; refine hd hK ?_; clear hH hK K; intro hH; refine st 8 fun K hK => ?_; go_simp; (with_reducible refine Calls.cPQ (refPAddC (by omega)) ?_); intro y2 _ gx2 ax2 lx2 cx2 aax2 llx2 ccx2 gy2 ay2 ly2 cy2 aay2 lly2 ccy2 _ _; refine hd hK ?_; clear hH hK K; intro hH; refine st 9 fun K hK => ?_; go_simp; refine hd hK ?_; clear hH hK K; intro hH; refine tk 10 hH ?_; refine dn ?_; clear hH; go_wp2; go_ret; exact RingRet.fin (V := [⟨pgx, pax, plx, pcx, paax, pllx, pccx, pgy, pay, ply, pcy, paay, plly, pccy⟩, ⟨gx1, ax1, lx1, cx1, aax1, llx1, ccx1, gy1, ay1, ly1, cy1, aay1, lly1, ccy1⟩, ⟨gx2, ax2, lx2, cx2, aax2, llx2, ccx2, gy2, ay2, ly2, cy2, aay2, lly2, ccy2⟩]) (L := [(((pm : Int) : Rat), ((pn : Int) : Rat)), (((pm + um : Int) : Rat), ((pn + un : Int) : Rat)), (((pm + vm : Int) : Rat), ((pn + vn : Int) : Rat))]) (hs := Sl.ofBx (Bx.re rfl)) (hp := (PsQ.snoc (a := ⟨gx2, ax2, lx2, cx2, aax2, llx2, ccx2, gy2, ay2, ly2, cy2, aay2, lly2, ccy2⟩) (x := ((pm + vm : Int) : Rat)) (y := ((pn + vn : Int) : Rat)) (PsQ.snoc (a := ⟨gx1, ax1, lx1, cx1, aax1, llx1, ccx1, gy1, ay1, ly1, cy1, aay1, lly1, ccy1⟩) (x := ((pm + um : Int) : Rat)) (y := ((pn + un : Int) : Rat)) (PsQ.snoc (a := ⟨pgx, pax, plx, pcx, paax, pllx, pccx, pgy, pay, ply, pcy, paay, plly, pccy⟩) (x := ((pm : Int) : Rat)) (y := ((pn : Int) : Rat)) PsQ.nil inferInstance inferInstance (Nat.le_refl _) (Nat.le_refl _)) (CQ.small (CQ.cast inferInstance (one_mul_add _ _) (Nat.le_refl _)) (by omega)) (CQ.small (CQ.cast inferInstance (one_mul_add _ _) (Nat.le_refl _)) (by omega)) (Nat.le_refl _) (Nat.le_refl _)) (CQ.small (CQ.cast inferInstance (one_mul_add _ _) (Nat.le_refl _)) (by omega)) (CQ.small (CQ.cast inferInstance (one_mul_add _ _) (Nat.le_refl _)) (by omega)) (Nat.le_refl _) (Nat.le_refl _))) ⟨ring3 (pne (by omega)) (pne (by omega)) (pne (by omega)), (IntL.snoc (IntL.snoc (IntL.snoc IntL.nil (by omega) (by omega)) (by omega) (by omega)) (by omega) (by omega)), (by simp)⟩ Lo.new
      · have h1' : (v0 == 1) = false := beq_false_of_ne h1
        have h0' : (v0 == 0) = false := beq_false_of_ne h0
        go_wp2_with fail; go_meet; exact ⟨inferInstance, inferInstance⟩
  case rest =>
    obtain ⟨c1, c2⟩ := hcut; go_wp2_with fail
    with_reducible refine Calls.cNext (nextC (by omega)) ?_
    intro W1 _ _ x x1 x2
    obtain ⟨X, hX, hX6⟩ : ∃ X : Nat, 3 + x = (X : Int) ∧ X ≤ 6 := ⟨(3 + x).toNat, by omega, by omega⟩
    have e1 : IntKind.i64.wrap (3 + x) = (X : Int) := by rw [wr_in (by omega) (by omega), hX]
    go_wp2_with fail
    go_loopw [11, 10] (fun i o wr => ∃ (m : Nat) (U : List AV) (N : List (Rat × Rat)), i = .int .i64 (m : Int) ∧ Rn wr o 47 6 U.length (rowA U) w.heap.size wr ∧ PsQ wr U N 4 ∧ Hid (Steps N ∧ IntL N ∧ U.length + m ≤ 6) ∧ Ct wr t ∧ Gb w wr t) (fun i _ _ => (intOf i).toNat)
    case atStart => exact ⟨X, [], [], rfl, Rn.cast2 (Rn.nil (Gb.out (w := w) (g := t)).size) rfl rfl, PsQ.nil, Lib.hid ⟨Steps.nil, IntL.nil, by simpa using hX6⟩, inferInstance, inferInstance⟩
    case round =>
      obtain ⟨m1, U, N, rfl, i1, i2, hI, i3, i4⟩ := hrel
      have kt : Tp1 w wr t := ⟨i4.out, ht.out⟩
      obtain ⟨a3, c3, rfl⟩ := i1.slice; obtain ⟨hc1, hc2⟩ := i1.cap
      cases m1 with
      | succ m =>
        have hm : 0 < ((m + 1 : Nat) : Int) := (by omega); have hm2 : (0 : Int) < (m : Int) + 1 := (by omega)
        have em : IntKind.i64.wrap ((m : Int) + 1 - 1) = (m : Int) := by rw [wr_in (by have := hI.out; omega) (by have := hI.out; omega)]; omega
        have em2 : IntKind.i64.wrap (m : Int) = (m : Int) := wr_in (by have := hI.out; omega) (by have := hI.out; omega)
        go_wp2_with fail
        with_reducible refine Calls.cTPI tapePI ?_
        intro W2 _ _ pgx pax plx pcx paax pllx pccx pgy pay ply pcy paay plly pccy pm pn _ _ hp
        have hp' := hp.out
        by_cases hU : U = []
        · subst hU
          have hN : N = [] := List.eq_nil_of_length_eq_zero i2.len.symm
          have i9 : Rn wr (.slice a3 0 c3) 47 6 0 [] w.heap.size wr := i1
          clear i1; go_wp2_with fail; refine rgn [] [] fun hH => ?_; refine tk 0 hH ?_; refine tk 1 hH ?_; refine tk 2 hH ?_; refine tk 3 hH ?_; refine tkU 4 hH ?_; refine tkU 5 hH ?_; refine tkU 6 hH ?_; refine tkU 7 hH ?_; refine tkU 8 hH ?_; refine tkU 9 hH ?_; refine tkU 10 hH ?_; refine tkU 11 hH ?_; refine tkU 12 hH ?_; refine tk 13 hH ?_; refine dn ?_; clear hH
          go_wp2_with (at_builtin; go_loud (refine app_rn1 (v := .slice a3 0 c3) rfl (.tmp 92) (.tmp 94) 61 rfl Tryz.underlying61 info_q rfl (by decide) (by decide) (by decide) inferInstance rfl (by simp) rfl (by rfl) ?h1 ?h2 (by have := hI.out; omega) ?_); (case h1 => exact AV.one ⟨_, _, _, _, _, _, _, _, _, _, _, _, _, _⟩); (case h2 => exact AV.nd ⟨_, _, _, _, _, _, _, _, _, _, _, _, _, _⟩); intro g2 c2 w2 i9 i10 i11)
          go_roundw
          case rel => exact ⟨m, ([] : List AV) ++ [⟨pgx, pax, plx, pcx, paax, pllx, pccx, pgy, pay, ply, pcy, paay, plly, pccy⟩], N ++ [(((pm : Int) : Rat), ((pn : Int) : Rat))], by go_num, Rn.cast2 (inferInstance) (by simp) rfl, PsQ.add (Nat.le_refl _) (Nat.le_refl _), Lib.hid ⟨Steps.snoc hI.out.1 (.inl hN), IntL.snoc hI.out.2.1 (by omega) (by omega), by have := hI.out; rw [List.length_append, List.length_singleton]; omega⟩, inferInstance, inferInstance⟩
          case measure => simp [intOf]
        · have hU0 : 0 < U.length := List.length_pos_iff.2 hU
          have hU1 : ¬ ((U.length : Int) = 0) := (by omega); have hU2 : ¬ (U.length = 0) := (by omega)
          have hU3 : ((U.length : Int) == 0) = false := beq_false_of_ne hU1
          obtain ⟨j, hj⟩ : ∃ j, U.length = j + 1 := ⟨U.length - 1, by omega⟩
          have hjl : j < U.length := (by omega); have lj : LtN j U.length := ⟨hjl⟩; have hjl' : (j : Int) < U.length := (by omega)
          have ej : IntKind.i64.wrap ((U.length : Int) - 1) = (j : Int) := by rw [wr_in (by have := hI.out; omega) (by have := hI.out; omega)]; omega
          have HJ := Lib.hid hj; clear hj
          have i5 : Rn W2 (.slice a3 U.length c3) 47 6 U.length (rowA U) w.heap.size wr := inferInstance
          obtain ⟨g2, rfl, hA2⟩ := (Sl.ofRn (h := i5)).form hU0
          by_cases hs : pg N j = (((pm : Int) : Rat), ((pn : Int) : Rat))
          · have HV : Hid ((decide ((pg N j).1 = ((pm : Int) : Rat)) && decide ((pg N j).2 = ((pn : Int) : Rat))) = true) := Lib.hid (by rw [hs]; simp)
            clear hs; go_wp2_with fail; refine rgn [] [] fun hH => ?_; refine tk 0 hH ?_; refine tk 1 hH ?_; refine tk 2 hH ?_; refine tk 3 hH ?_; refine tk 4 hH ?_; refine tk 5 hH ?_; refine tk 6 hH ?_; refine tk 7 hH ?_; refine tk 8 hH ?_; refine tk 9 hH ?_; refine tk 10 hH ?_; refine st 11 fun K hK => ?_; go_simp; (with_reducible refine Calls.cE (refSameV (by omega) HV) ?_); intros; refine hd hK ?_; clear hH hK K; intro hH; refine tk 12 hH ?_; refine tk 13 hH ?_; refine dn ?_; clear hH; go_wp2
            go_roundw
            case rel => exact ⟨m, U, N, by go_num, Rn.cast2 inferInstance rfl rfl, inferInstance, Lib.hid ⟨hI.out.1, hI.out.2.1, by have := hI.out; omega⟩, inferInstance, inferInstance⟩
            case measure => simp [intOf]
          · have HV : Hid ((decide ((pg N j).1 = ((pm : Int) : Rat)) && decide ((pg N j).2 = ((pn : Int) : Rat))) = false) := Lib.hid (by
              rw [Prod.ext_iff] at hs
              simpa using hs)
            have HNE := Lib.hid hs; clear hs; go_wp2_with fail; refine rgn [] [] fun hH => ?_; refine tk 0 hH ?_; refine tk 1 hH ?_; refine tk 2 hH ?_; refine tk 3 hH ?_; refine tk 4 hH ?_; refine tk 5 hH ?_; refine tk 6 hH ?_; refine tk 7 hH ?_; refine tk 8 hH ?_; refine tk 9 hH ?_; refine tk 10 hH ?_; refine st 11 fun K hK => ?_; go_simp; (with_reducible refine Calls.cE (refSameV (by omega) HV) ?_); intros; refine hd hK ?_; clear hH hK K; intro hH; refine tk 12 hH ?_; refine tk 13 hH ?_; refine dn ?_; clear hH
            go_wp2_with (at_builtin; go_loud (refine app_rn1 (v := .slice (some ⟨g2, 0, none⟩) U.length c3) rfl (.tmp 92) (.tmp 94) 61 rfl Tryz.underlying61 info_q rfl (by decide) (by decide) (by decide) inferInstance rfl (rowA_nd _) rfl (by rfl) ?h1 ?h2 (by have := hI.out; omega) ?_); (case h1 => exact AV.one ⟨_, _, _, _, _, _, _, _, _, _, _, _, _, _⟩); (case h2 => exact AV.nd ⟨_, _, _, _, _, _, _, _, _, _, _, _, _, _⟩); intro g2 c2 w2 i9 i10 i11)
            go_roundw
            case rel => exact ⟨m, U ++ [⟨pgx, pax, plx, pcx, paax, pllx, pccx, pgy, pay, ply, pcy, paay, plly, pccy⟩], N ++ [(((pm : Int) : Rat), ((pn : Int) : Rat))], by go_num, Rn.cast2 (inferInstance) (by simp) (by rw [rowA_snoc]; rfl), PsQ.add (Nat.le_refl _) (Nat.le_refl _), Lib.hid ⟨Steps.snoc hI.out.1 (.inr (by rw [show N.length - 1 = j by have := HJ.out; have := i2.len; omega]; exact HNE.out)), IntL.snoc hI.out.2.1 (by omega) (by omega), by have := hI.out; rw [List.length_append, List.length_singleton]; omega⟩, inferInstance, inferInstance⟩
            case measure => simp [intOf]
      | zero =>
        have hU6 : U.length ≤ 6 := by have := hI.out; omega
        have hSt := Lib.hid hI.out.1; have hIn := Lib.hid hI.out.2.1; have HLO := Lib.hid (i1.lo 0 0); clear hI
        rw [show (((0 : Nat)) : Int) = 0 from rfl]
        go_wp2_with fail
        go_loopw [10] (fun o wx => ∃ (V : List AV) (M : List (Rat × Rat)), o = .slice a3 V.length c3 ∧ Hid (V.length ≤ c3) ∧ Sl wx (.slice a3 V.length c3) V.length (rowA V) wr ∧ PsQ wx V M 4 ∧ Hid (Steps M ∧ IntL M ∧ V.length ≤ 6) ∧ Kp wr wx) (fun o _ => slLen o)
        case atStart => exact ⟨U, N, rfl, Lib.hid hc1, Sl.ofRn (h := i1.here), i2, Lib.hid ⟨hSt.out, hIn.out, hU6⟩, inferInstance⟩
        case round =>
          obtain ⟨V, M, rfl, hVc, j1, j2, hI, j3⟩ := hrel; have kx := Kp1.mk j3.out; clear i1 i2 hU6 hSt hIn hc1
          have hV6 : V.length ≤ 6 := hI.out.2.2
          by_cases h1 : 1 < V.length
          · have h1' : 1 < (V.length : Int) := by omega
            obtain ⟨j, hj⟩ : ∃ j, V.length = j + 1 := ⟨V.length - 1, by omega⟩
            have hjl : j < V.length := (by omega); have h0l : 0 < V.length := (by omega); have lj : LtN j V.length := ⟨hjl⟩; have l0 : LtN 0 V.length := ⟨h0l⟩; have hjl' : (j : Int) < V.length := (by omega); have h0l' : (0 : Int) < V.length := (by omega)
            have ej : IntKind.i64.wrap ((V.length : Int) - 1) = (j : Int) := by rw [wr_in (by omega) (by omega)]; omega
            have hjc : (j : Int) ≤ c3 := by have := hVc.out; omega
            have HJ := Lib.hid hj; clear hj; obtain ⟨g2, rfl, hA2⟩ := j1.form h0l
            by_cases hs : pg M 0 = pg M j
            · have HV : Hid ((decide ((pg M 0).1 = (pg M j).1) && decide ((pg M 0).2 = (pg M j).2)) = true) := Lib.hid (by rw [hs]; simp)
              clear hs; go_wp2_with fail; refine rgn [] [] fun hH => ?_; refine tk 0 hH ?_; refine tk 1 hH ?_; refine tk 2 hH ?_; refine tk 3 hH ?_; refine tk 4 hH ?_; refine tk 5 hH ?_; refine tk 6 hH ?_; refine tk 7 hH ?_; refine tk 8 hH ?_; refine tk 9 hH ?_; refine tk 10 hH ?_; refine tk 11 hH ?_; refine tk 12 hH ?_; refine st 13 fun K hK => ?_; go_simp; (with_reducible refine Calls.cE (refSameV (by omega) HV) ?_); intros; refine hd hK ?_; clear hH hK K; intro hH; refine tk 14 hH ?_; refine dn ?_; clear hH; go_wp2
              go_roundw
              case rel => exact ⟨V.take j, M.take j, by rw [show (V.take j).length = j by rw [List.length_take]; omega], Lib.hid (by rw [List.length_take]; omega), Sl.takeI (n := V.length) j (by omega), PsQ.take inferInstance j, Lib.hid ⟨hI.out.1.take j, hI.out.2.1.take j, by rw [List.length_take]; omega⟩, inferInstance⟩
              case measure => (simp only [slLen]; have := HJ.out; omega)
            · have HV : Hid ((decide ((pg M 0).1 = (pg M j).1) && decide ((pg M 0).2 = (pg M j).2)) = false) := Lib.hid (by
                rw [Prod.ext_iff] at hs
                simpa using hs)
              have HNE := Lib.hid (show ¬ pg M 0 = pg M (V.length - 1) by rw [show V.length - 1 = j by have := HJ.out; omega]; exact hs)
              clear hs; go_wp2_with fail; refine rgn [] [] fun hH => ?_; refine tk 0 hH ?_; refine tk 1 hH ?_; refine tk 2 hH ?_; refine tk 3 hH ?_; refine tk 4 hH ?_; refine tk 5 hH ?_; refine tk 6 hH ?_; refine tk 7 hH ?_; refine tk 8 hH ?_; refine tk 9 hH ?_; refine tk 10 hH ?_; refine tk 11 hH ?_; refine tk 12 hH ?_; refine st 13 fun K hK => ?_; go_simp; (with_reducible refine Calls.cE (refSameV (by omega) HV) ?_); intros; refine hd hK ?_; clear hH hK K; intro hH; refine tk 14 hH ?_; refine dn ?_; clear hH; have HD := Lib.hid (show True from trivial); obtain ⟨dd, hdd⟩ : ∃ dd, dsc M M.length = dd := ⟨_, rfl⟩
              have hlN := j2.len
              have hle := dsc_le M M.length
              by_cases h3 : dd < 3
              · have h3' : (dd : Int) < 3 := by omega
                have HDD := Lib.hid hdd; clear hdd hle hlN
                go_wp2_with (first
                  | (go_at_call 84; (with_reducible refine Calls.cLen (sortedC (V := V) (by omega) (by have := hI.out; omega)) ?_); intro y9 _ a9 c9; rw [HDD.out]))
                go_wp2_with fail
                with_reducible refine Calls.cPQ (refXyC (by omega)) ?_
                intro y1 _ gx1 ax1 lx1 cx1 aax1 llx1 ccx1 gy1 ay1 ly1 cy1 aay1 lly1 ccy1 _ _; go_wp2_with fail
                with_reducible refine Calls.cPQ (refXyC (by omega)) ?_
                intro y2 _ gx2 ax2 lx2 cx2 aax2 llx2 ccx2 gy2 ay2 ly2 cy2 aay2 lly2 ccy2 _ _; go_wp2_with fail
                with_reducible refine Calls.cPQ (refXyC (by omega)) ?_
                intro y3 _ gx3 ax3 lx3 cx3 aax3 llx3 ccx3 gy3 ay3 ly3 cy3 aay3 lly3 ccy3 _ _; go_wp2_with fail; go_ret; exact RingRet.fin (V := [⟨gx1, ax1, lx1, cx1, aax1, llx1, ccx1, gy1, ay1, ly1, cy1, aay1, lly1, ccy1⟩, ⟨gx2, ax2, lx2, cx2, aax2, llx2, ccx2, gy2, ay2, ly2, cy2, aay2, lly2, ccy2⟩, ⟨gx3, ax3, lx3, cx3, aax3, llx3, ccx3, gy3, ay3, ly3, cy3, aay3, lly3, ccy3⟩]) (L := [(((0 : Int) : Rat), ((0 : Int) : Rat)), (((2 : Int) : Rat), ((0 : Int) : Rat)), (((0 : Int) : Rat), ((2 : Int) : Rat))]) (hs := Sl.ofBx (Bx.re rfl)) (hp := (PsQ.snoc (a := ⟨gx3, ax3, lx3, cx3, aax3, llx3, ccx3, gy3, ay3, ly3, cy3, aay3, lly3, ccy3⟩) (x := ((0 : Int) : Rat)) (y := ((2 : Int) : Rat)) (PsQ.snoc (a := ⟨gx2, ax2, lx2, cx2, aax2, llx2, ccx2, gy2, ay2, ly2, cy2, aay2, lly2, ccy2⟩) (x := ((2 : Int) : Rat)) (y := ((0 : Int) : Rat)) (PsQ.snoc (a := ⟨gx1, ax1, lx1, cx1, aax1, llx1, ccx1, gy1, ay1, ly1, cy1, aay1, lly1, ccy1⟩) (x := ((0 : Int) : Rat)) (y := ((0 : Int) : Rat)) PsQ.nil inferInstance inferInstance (Nat.le_refl _) (Nat.le_refl _)) inferInstance inferInstance (Nat.le_refl _) (Nat.le_refl _)) inferInstance inferInstance (Nat.le_refl _) (Nat.le_refl _))) ⟨ring3 (pne (by omega)) (pne (by omega)) (pne (by omega)), (IntL.snoc (IntL.snoc (IntL.snoc IntL.nil (by omega) (by omega)) (by omega) (by omega)) (by omega) (by omega)), (by simp)⟩ Lo.new
              · have h3' : ¬ ((dd : Int) < 3) := by omega
                have HDD := Lib.hid hdd; have HLE := Lib.hid hle; have HLN := Lib.hid hlN; clear hdd hle hlN
                go_wp2_with (first
                  | (go_at_call 84; (with_reducible refine Calls.cLen (sortedC (V := V) (by omega) (by have := hI.out; omega)) ?_); intro y9 _ a9 c9; rw [HDD.out]))
                go_ret
                exact RingRet.fin (V := V) (L := M) ⟨Steps.ring hI.out.1 (by have := HDD.out; omega) (by rw [← HLN.out]; exact HNE.out), hI.out.2.1, hI.out.2.2⟩ (HLO.out.re _ _)
          · have h1' : ¬ (1 < (V.length : Int)) := by omega
            have h1d : decide (1 < V.length) = false := decide_eq_false h1
            have h1e : decide (1 < (V.length : Int)) = false := decide_eq_false h1'
            go_wp2_with fail; refine rgn [] [] fun hH => ?_; refine tk 0 hH ?_; refine tk 1 hH ?_; refine tk 2 hH ?_; refine tk 3 hH ?_; refine tkU 4 hH ?_; refine tkU 5 hH ?_; refine tkU 6 hH ?_; refine tkU 7 hH ?_; refine tkU 8 hH ?_; refine tkU 9 hH ?_; refine tkU 10 hH ?_; refine tkU 11 hH ?_; refine tkU 12 hH ?_; refine tkU 13 hH ?_; refine tk 14 hH ?_; refine dn ?_; clear hH; have HD := Lib.hid (show True from trivial); obtain ⟨dd, hdd⟩ : ∃ dd, dsc M M.length = dd := ⟨_, rfl⟩
            have hlN := j2.len
            have hle := dsc_le M M.length
            by_cases h3 : dd < 3
            · have h3' : (dd : Int) < 3 := by omega
              have HDD := Lib.hid hdd; clear hdd hle hlN
              go_wp2_with (first
                | (go_at_call 84; (with_reducible refine Calls.cLen (sortedC (V := V) (by omega) (by have := hI.out; omega)) ?_); intro y9 _ a9 c9; rw [HDD.out]))
              go_wp2_with fail
              with_reducible refine Calls.cPQ (refXyC (by omega)) ?_
              intro y1 _ gx1 ax1 lx1 cx1 aax1 llx1 ccx1 gy1 ay1 ly1 cy1 aay1 lly1 ccy1 _ _; go_wp2_with fail
              with_reducible refine Calls.cPQ (refXyC (by omega)) ?_
              intro y2 _ gx2 ax2 lx2 cx2 aax2 llx2 ccx2 gy2 ay2 ly2 cy2 aay2 lly2 ccy2 _ _; go_wp2_with fail
              with_reducible refine Calls.cPQ (refXyC (by omega)) ?_
              intro y3 _ gx3 ax3 lx3 cx3 aax3 llx3 ccx3 gy3 ay3 ly3 cy3 aay3 lly3 ccy3 _ _; go_wp2_with fail; go_ret; exact RingRet.fin (V := [⟨gx1, ax1, lx1, cx1, aax1, llx1, ccx1, gy1, ay1, ly1, cy1, aay1, lly1, ccy1⟩, ⟨gx2, ax2, lx2, cx2, aax2, llx2, ccx2, gy2, ay2, ly2, cy2, aay2, lly2, ccy2⟩, ⟨gx3, ax3, lx3, cx3, aax3, llx3, ccx3, gy3, ay3, ly3, cy3, aay3, lly3, ccy3⟩]) (L := [(((0 : Int) : Rat), ((0 : Int) : Rat)), (((2 : Int) : Rat), ((0 : Int) : Rat)), (((0 : Int) : Rat), ((2 : Int) : Rat))]) (hs := Sl.ofBx (Bx.re rfl)) (hp := (PsQ.snoc (a := ⟨gx3, ax3, lx3, cx3, aax3, llx3, ccx3, gy3, ay3, ly3, cy3, aay3, lly3, ccy3⟩) (x := ((0 : Int) : Rat)) (y := ((2 : Int) : Rat)) (PsQ.snoc (a := ⟨gx2, ax2, lx2, cx2, aax2, llx2, ccx2, gy2, ay2, ly2, cy2, aay2, lly2, ccy2⟩) (x := ((2 : Int) : Rat)) (y := ((0 : Int) : Rat)) (PsQ.snoc (a := ⟨gx1, ax1, lx1, cx1, aax1, llx1, ccx1, gy1, ay1, ly1, cy1, aay1, lly1, ccy1⟩) (x := ((0 : Int) : Rat)) (y := ((0 : Int) : Rat)) PsQ.nil inferInstance inferInstance (Nat.le_refl _) (Nat.le_refl _)) inferInstance inferInstance (Nat.le_refl _) (Nat.le_refl _)) inferInstance inferInstance (Nat.le_refl _) (Nat.le_refl _))) ⟨ring3 (pne (by omega)) (pne (by omega)) (pne (by omega)), (IntL.snoc (IntL.snoc (IntL.snoc IntL.nil (by omega) (by omega)) (by omega) (by omega)) (by omega) (by omega)), (by simp)⟩ Lo.new
            · exfalso
              omega
end
end Go.Proofs.YtdlnoeegboapkaaGreatDoor
