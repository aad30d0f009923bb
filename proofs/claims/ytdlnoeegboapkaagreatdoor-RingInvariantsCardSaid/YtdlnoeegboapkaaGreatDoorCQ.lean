/-
  Texts of this claim, joined: Rg8, Rg10, Rg19, Rv0, Rv1, Rg21, Rt.
-/
import Derived.Test.YtdlnoeegboapkaaGreatDoorCP
import Derived.Test.YtdlnoeegboapkaaGreatDoorCO
import Derived.Deep.CutRange
import Derived.Deep.CutBlock
import Derived.Shelf.SlicesQ.Reverse
import Derived.Test.YtdlnoeegboapkaaGreatDoorCN
/- A ring off the tape. printed by a small program (mkrg8.py). -/
namespace Go.Proofs.YtdlnoeegboapkaaGreatDoor
open Go.RowKit
set_option maxRecDepth 100000
set_option maxHeartbeats 40000000
set_option synthInstance.maxSize 100000
set_option synthInstance.maxHeartbeats 1000000
set_option linter.unusedVariables false

/-- Points with small integer coordinates. -/
def IntL (L : List (Rat × Rat)) : Prop := ∀ i, i < L.length → ∃ x y : Int, pg L i = ((x : Rat), (y : Rat)) ∧ (-8 ≤ x ∧ x ≤ 8) ∧ -8 ≤ y ∧ y ≤ 8
theorem IntL.nil : IntL [] := fun i h => by simp at h
theorem IntL.snoc {L : List (Rat × Rat)} {x y : Int} (h : IntL L) (hx : -8 ≤ x ∧ x ≤ 8) (hy : -8 ≤ y ∧ y ≤ 8) : IntL (L ++ [((x : Rat), (y : Rat))]) := by
  intro i hi
  rw [List.length_append, List.length_singleton] at hi
  rcases Nat.lt_or_ge i L.length with h1 | h1
  · obtain ⟨u, v, e, b⟩ := h i h1
    refine ⟨u, v, ?_, b⟩
    rw [pg_get (by simp; omega), List.getElem_append_left h1, ← pg_get h1, e]
  · have : i = L.length := by omega
    subst this
    refine ⟨x, y, ?_, hx, hy⟩
    rw [pg_get (by simp)]; simp
theorem IntL.take {L : List (Rat × Rat)} (h : IntL L) (k : Nat) : IntL (L.take k) := by
  intro i hi
  have hl := hi
  rw [List.length_take] at hl
  obtain ⟨u, v, e, b⟩ := h i (by omega)
  refine ⟨u, v, ?_, b⟩
  rw [pg_get hi, List.getElem_take, ← pg_get (by omega), e]
theorem PsQ.take {W : World} {V : List AV} {L : List (Rat × Rat)} {k : Nat} (h : PsQ W V L k) (n : Nat) : PsQ W (V.take n) (L.take n) k := by
  have hl := h.len
  refine ⟨by rw [List.length_take, List.length_take, hl], fun i hi => ?_, fun i hi => ?_⟩
  all_goals
    have h2 := hi
    rw [List.length_take] at h2
    have e1 : av (V.take n) i = av V i := by rw [av_get hi, av_get (by omega), List.getElem_take]
    have e2 : pg (L.take n) i = pg L i := by rw [pg_get (by rw [List.length_take]; omega), pg_get (by omega), List.getElem_take]
    rw [e1, e2]
    first | exact h.x i (by omega) | exact h.y i (by omega)
theorem Sl.take {W w0 : World} {a : Option Addr} {n c m : Nat} {V : List AV} (h : Sl W (.slice a n c) V.length (rowA V) w0) (hm : m ≤ V.length) : Sl W (.slice a m c) (V.take m).length (rowA (V.take m)) w0 := by
  have e : (V.take m).length = m := by rw [List.length_take]; omega
  rw [e]
  rcases h.out with ⟨e1, e2⟩ | ⟨g, c', e1, hn, hc⟩
  · injection e1 with e3 e4 e5
    subst e3; subst e5
    have : m = 0 := by omega
    subst this
    exact ⟨.inl ⟨rfl, rfl⟩, h.lt, h.ltW⟩
  · injection e1 with e3 e4 e5
    subst e3; subst e5
    exact ⟨.inr ⟨g, _, rfl, by omega, fun j u hu => hc j u (rowA_take V m j u hu)⟩, h.lt, h.ltW⟩
theorem Sl.takeI {W w0 : World} {a : Option Addr} {n c : Nat} {V : List AV} [h : Sl W (.slice a n c) V.length (rowA V) w0] (m : Nat) (hm : m ≤ V.length) : Sl W (.slice a (V.take m).length c) (V.take m).length (rowA (V.take m)) w0 := by
  have h9 := h.take hm
  have e : (V.take m).length = m := by rw [List.length_take]; omega
  rw [e] at h9 ⊢
  exact h9
theorem CQ.small {W : World} {v : Value} {z : Int} {k : Nat} (h : CQ W v ((z : Int) : Rat) k) (b : -8 ≤ z ∧ z ≤ 8) : CQ W v ((z : Int) : Rat) 4 := by
  obtain ⟨g, a, l, c, aa, ll, cc, e, ⟨h1, h2⟩, h3⟩ := h.out
  have e1 : (((z : Int) : Rat).num).natAbs = z.natAbs := by rw [show ((z : Int) : Rat).num = z from rfl]
  have e2 : ((z : Int) : Rat).den = 1 := rfl
  refine ⟨g, a, l, c, aa, ll, cc, e, ⟨h1, h2.1, ?_⟩, h3.1, ?_⟩
  · rw [e1]
    exact Nat.le_trans (nf_len_le (k := 1) (by omega)) (by decide)
  · rw [e2]; exact Nat.le_trans (nf_len_le (k := 1) (by decide)) (by decide)
theorem pne {a b c d : Int} (h : ¬ (a = c ∧ b = d)) : (((a : Int) : Rat), ((b : Int) : Rat)) ≠ (((c : Int) : Rat), ((d : Int) : Rat)) := fun e => h ⟨Rat.intCast_inj.1 (congrArg Prod.fst e), Rat.intCast_inj.1 (congrArg Prod.snd e)⟩
theorem numSW {w : World} {v : Int} {g1 : Bool} {a1 aa1 : Option Addr} {l1 c1 ll1 cc1 k1 : Nat} {x : Rat} [h1 : CQ w (.agg #[.bool g1, .slice a1 l1 c1, .slice aa1 ll1 cc1]) x k1] (hv : Hid (isgn x.num = v)) :
    Calls Tryz.prog 54 #[.agg #[.bool g1, .slice a1 l1 c1, .slice aa1 ll1 cc1]] w fun e w' => e = .returned (.int .i64 v) ∧ Below w.heap.size w w' := by
  rw [← hv.out]; exact numSC
theorem one_mul_add (a b : Int) : ((a : Int) : Rat) + ((1 : Int) : Rat) * ((b : Int) : Rat) = ((a + b : Int) : Rat) := by
  rw [Rat.intCast_add, show ((1 : Int) : Rat) = 1 from rfl, Rat.one_mul]
def slLen : Value → Nat
  | .slice _ n _ => n
  | _ => 0
theorem cell_az0 {W w0 : World} {g : Nat} {V : List AV} [h : At W g (rowA V) w0] (hk : 0 < V.length) : W.cell? ⟨g, 0, none⟩ = some (.bool (av V 0).gx) := by
  have := at_a h hk (j := 0) (by decide)
  rw [Nat.zero_mul, Nat.zero_add] at this; exact this
theorem cell_az1 {W w0 : World} {g : Nat} {V : List AV} [h : At W g (rowA V) w0] (hk : 0 < V.length) : W.cell? ⟨g, 1, none⟩ = some (.slice (av V 0).ax (av V 0).lx (av V 0).cx) := by
  have := at_a h hk (j := 1) (by decide)
  rw [Nat.zero_mul, Nat.zero_add] at this; exact this
theorem cell_az2 {W w0 : World} {g : Nat} {V : List AV} [h : At W g (rowA V) w0] (hk : 0 < V.length) : W.cell? ⟨g, 2, none⟩ = some (.slice (av V 0).aax (av V 0).llx (av V 0).ccx) := by
  have := at_a h hk (j := 2) (by decide)
  rw [Nat.zero_mul, Nat.zero_add] at this; exact this
theorem cell_az3 {W w0 : World} {g : Nat} {V : List AV} [h : At W g (rowA V) w0] (hk : 0 < V.length) : W.cell? ⟨g, 3, none⟩ = some (.bool (av V 0).gy) := by
  have := at_a h hk (j := 3) (by decide)
  rw [Nat.zero_mul, Nat.zero_add] at this; exact this
theorem cell_az4 {W w0 : World} {g : Nat} {V : List AV} [h : At W g (rowA V) w0] (hk : 0 < V.length) : W.cell? ⟨g, 4, none⟩ = some (.slice (av V 0).ay (av V 0).ly (av V 0).cy) := by
  have := at_a h hk (j := 4) (by decide)
  rw [Nat.zero_mul, Nat.zero_add] at this; exact this
theorem cell_az5 {W w0 : World} {g : Nat} {V : List AV} [h : At W g (rowA V) w0] (hk : 0 < V.length) : W.cell? ⟨g, 5, none⟩ = some (.slice (av V 0).aay (av V 0).lly (av V 0).ccy) := by
  have := at_a h hk (j := 5) (by decide)
  rw [Nat.zero_mul, Nat.zero_add] at this; exact this
attribute [local go_sem] cell_az0 cell_az1 cell_az2 cell_az3 cell_az4 cell_az5
/-- The block of a slice lies from base on. -/
class Lo (v : Value) (base : outParam Nat) : Prop where out : ∀ g, v.ownBlock = some g → base ≤ g
theorem Rn.lo {W w0 : World} {a : Option Addr} {e : TypeId} {sz n n' c base : Nat} {xs : List Value} (h : Rn W (.slice a n' c) e sz n xs base w0) (m d : Nat) : Lo (.slice a m d) base := ⟨fun g eg => (h.rw'.out.lt g (by cases a <;> simp_all [Value.ownBlock])).1⟩
theorem Lo.re {a : Option Addr} {n c base : Nat} (h : Lo (.slice a n c) base) (m d : Nat) : Lo (.slice a m d) base := ⟨fun g eg => h.out g (by cases a <;> simp_all [Value.ownBlock])⟩
theorem Lo.new {w : World} {b n c : Nat} [h : Gg w b] : Lo (.slice (some ⟨b, 0, none⟩) n c) w.heap.size := ⟨fun g eg => by cases eg; exact h.out⟩
instance (priority := low) Sl.tp2 {W W2 w0 : World} {v : Value} {n base q : Nat} {xs : List Value} [k : Tp1 W W2 q] [h : Sl W v n xs w0] [o : Lo v base] [l : LtN q base] : Sl W2 v n xs w0 := h.keep k.gb.size
  (fun g e => k.gb.block _ (h.ltW g e) (fun x => by injection x with x; have := l.out; have := o.out g e; omega))
/-- A ring off the tape: a valid one, of small integers. -/
def RingRet (w : World) (t : Nat) (e : Ending) (w' : World) : Prop := ∃ (a : Option Addr) (c : Nat) (V : List AV) (L : List (Rat × Rat)), e = .returned (.slice a V.length c) ∧ Sl w' (.slice a V.length c) V.length (rowA V) w' ∧ PsQ w' V L 4 ∧ (RingOK L ∧ IntL L ∧ V.length ≤ 6) ∧ Lo (.slice a V.length c) w.heap.size ∧ Ct w' t ∧ Gb w w' t
theorem Calls.cRing {P : Program} {f : FuncId} {args : Array Value} {w : World} {t : Nat} {K : Ending → World → Prop} [ht : Ct w t] (h : Calls P f args w (RingRet w t))
    (hK : ∀ w' [Tp1 w w' t] [Ct w' t] (a : Option Addr) (c : Nat) (V : List AV) (L : List (Rat × Rat)) [Sl w' (.slice a V.length c) V.length (rowA V) w'] [PsQ w' V L 4] [Lo (.slice a V.length c) w.heap.size], Hid (RingOK L ∧ IntL L ∧ V.length ≤ 6) → K (.returned (.slice a V.length c)) w') : Calls P f args w K := by
  refine h.mono ?_
  rintro e w' ⟨a, c, V, L, rfl, hs, hp, hr, hl, hc, hb⟩
  exact @hK w' ⟨hb.out, ht.out⟩ hc a c V L hs hp hl hr
theorem RingRet.fin {w w' w0 : World} {t n c : Nat} {a : Option Addr} {V : List AV} {L : List (Rat × Rat)} [hs : Sl w' (.slice a n c) V.length (rowA V) w0] [hp : PsQ w' V L 4] [hc : Ct w' t] [hg : Gb w w' t] (hr : RingOK L ∧ IntL L ∧ V.length ≤ 6) (hl : Lo (.slice a n c) w.heap.size) : RingRet w t (.returned (.slice a n c)) w' := by
  obtain rfl := hs.len
  exact ⟨a, c, V, L, rfl, hs.here, hp, hr, hl, hc, hg⟩
theorem tapeRingC {w : World} {t : Nat} [ht : Ct w t] : Calls Tryz.prog 25 #[.pointer (some ⟨t, 0, none⟩)] w (RingRet w t) := by
  go_enter Tryz.func25, Tryz.ntmps25
  go_upto_region 1 with fail
  go_wp2_with fail
  with_reducible refine Calls.cNext (nextC (by omega)) ?_
  intro W0 _ _ v0 v01 v02
  go_upto_block 0 with fail
  go_cut [3, 4, 5, 6, 7, 8, 9] from 13 to 68 (fun s3 s4 s5 s6 s7 s8 s9 wx => Ct wx t ∧ Gb w wx t)
  case first =>
    by_cases h0 : v0 = 0
    · subst h0
      go_wp2_with fail
      with_reducible refine Calls.cNext (nextC (by omega)) ?_
      intro W1 _ _ m m1 m2
      have e1 : IntKind.i64.wrap (m - 4) = m - 4 := by rw [IntKind.wrap_i64]; omega
      go_wp2_with fail
      with_reducible refine Calls.cNext (nextC (by omega)) ?_
      intro W2 _ _ n n1 n2
      have e2 : IntKind.i64.wrap (n - 4) = n - 4 := by rw [IntKind.wrap_i64]; omega
      obtain ⟨A, hA⟩ : ∃ A, m - 4 = A := ⟨_, rfl⟩
      obtain ⟨B, hB⟩ : ∃ B, n - 4 = B := ⟨_, rfl⟩
      rw [hA] at e1
      rw [hB] at e2
      have e3 : IntKind.i64.wrap (A + 1) = A + 1 := wr_in (by omega) (by omega)
      have e4 : IntKind.i64.wrap (B + 1) = B + 1 := wr_in (by omega) (by omega)
      go_wp2_with fail
      with_reducible refine Calls.cNext (nextC (by omega)) ?_
      intro W3 _ _ x x1 x2
      have e5 : IntKind.i64.wrap (A + 1 + x) = A + 1 + x := wr_in (by omega) (by omega)
      go_wp2_with fail
      with_reducible refine Calls.cNext (nextC (by omega)) ?_
      intro W4 _ _ y y1 y2
      have e6 : IntKind.i64.wrap (B + 1 + y) = B + 1 + y := wr_in (by omega) (by omega)
      obtain ⟨C, hC⟩ : ∃ C, A + 1 + x = C := ⟨_, rfl⟩
      obtain ⟨D, hD⟩ : ∃ D, B + 1 + y = D := ⟨_, rfl⟩
      have HH : Hid ((-4 ≤ A ∧ A ≤ 0) ∧ (-4 ≤ B ∧ B ≤ 0) ∧ (A < C ∧ C ≤ 4) ∧ (B < D ∧ D ≤ 4)) := Lib.hid (by omega)
      rw [hC] at e5
      rw [hD] at e6
      have hH := HH.out
      clear hA hB
      go_wp2_with fail
      with_reducible refine Calls.cPQ (refXyC (by omega)) ?_
      intro y1 _ gx1 ax1 lx1 cx1 aax1 llx1 ccx1 gy1 ay1 ly1 cy1 aay1 lly1 ccy1 _ _
      go_wp2_with fail
      with_reducible refine Calls.cPQ (refXyC (by omega)) ?_
      intro y2 _ gx2 ax2 lx2 cx2 aax2 llx2 ccx2 gy2 ay2 ly2 cy2 aay2 lly2 ccy2 _ _
      go_wp2_with fail
      with_reducible refine Calls.cPQ (refXyC (by omega)) ?_
      intro y3 _ gx3 ax3 lx3 cx3 aax3 llx3 ccx3 gy3 ay3 ly3 cy3 aay3 lly3 ccy3 _ _
      go_wp2_with fail
      with_reducible refine Calls.cPQ (refXyC (by omega)) ?_
      intro y4 _ gx4 ax4 lx4 cx4 aax4 llx4 ccx4 gy4 ay4 ly4 cy4 aay4 lly4 ccy4 _ _
      go_wp2_with fail
      go_ret
      exact RingRet.fin (V := [⟨gx1, ax1, lx1, cx1, aax1, llx1, ccx1, gy1, ay1, ly1, cy1, aay1, lly1, ccy1⟩, ⟨gx2, ax2, lx2, cx2, aax2, llx2, ccx2, gy2, ay2, ly2, cy2, aay2, lly2, ccy2⟩, ⟨gx3, ax3, lx3, cx3, aax3, llx3, ccx3, gy3, ay3, ly3, cy3, aay3, lly3, ccy3⟩, ⟨gx4, ax4, lx4, cx4, aax4, llx4, ccx4, gy4, ay4, ly4, cy4, aay4, lly4, ccy4⟩]) (L := [(((A : Int) : Rat), ((B : Int) : Rat)), (((C : Int) : Rat), ((B : Int) : Rat)), (((C : Int) : Rat), ((D : Int) : Rat)), (((A : Int) : Rat), ((D : Int) : Rat))]) (hs := Sl.ofBx (Bx.re rfl)) (hp := (PsQ.snoc (a := ⟨gx4, ax4, lx4, cx4, aax4, llx4, ccx4, gy4, ay4, ly4, cy4, aay4, lly4, ccy4⟩) (x := ((A : Int) : Rat)) (y := ((D : Int) : Rat)) (PsQ.snoc (a := ⟨gx3, ax3, lx3, cx3, aax3, llx3, ccx3, gy3, ay3, ly3, cy3, aay3, lly3, ccy3⟩) (x := ((C : Int) : Rat)) (y := ((D : Int) : Rat)) (PsQ.snoc (a := ⟨gx2, ax2, lx2, cx2, aax2, llx2, ccx2, gy2, ay2, ly2, cy2, aay2, lly2, ccy2⟩) (x := ((C : Int) : Rat)) (y := ((B : Int) : Rat)) (PsQ.snoc (a := ⟨gx1, ax1, lx1, cx1, aax1, llx1, ccx1, gy1, ay1, ly1, cy1, aay1, lly1, ccy1⟩) (x := ((A : Int) : Rat)) (y := ((B : Int) : Rat)) PsQ.nil inferInstance inferInstance (Nat.le_refl _) (Nat.le_refl _)) inferInstance inferInstance (Nat.le_refl _) (Nat.le_refl _)) inferInstance inferInstance (Nat.le_refl _) (Nat.le_refl _)) inferInstance inferInstance (Nat.le_refl _) (Nat.le_refl _))) ⟨ring4 (pne (by omega)) (pne (by omega)) (pne (by omega)) (pne (by omega)) (pne (by omega)), (IntL.snoc (IntL.snoc (IntL.snoc (IntL.snoc IntL.nil (by omega) (by omega)) (by omega) (by omega)) (by omega) (by omega)) (by omega) (by omega)), (by simp)⟩ Lo.new
    · by_cases h1 : v0 = 1
      · subst h1
        go_wp2_with fail
        with_reducible refine Calls.cTPI tapePI ?_
        intro W1 _ _ pgx pax plx pcx paax pllx pccx pgy pay ply pcy paay plly pccy pm pn _ _ hp
        go_wp2_with fail
        with_reducible refine Calls.cTVI tapeVI ?_
        intro W2 _ _ u1 u2 u3 u4 u5 u6 u7 u8 u9 u10 u11 u12 u13 u14 um un _ _ hu
        go_wp2_with fail
        with_reducible refine Calls.cTVI tapeVI ?_
        intro W3 _ _ t1 t2 t3 t4 t5 t6 t7 t8 t9 t10 t11 t12 t13 t14 vm vn _ _ hv
        obtain ⟨s, hs⟩ : ∃ s, isgn (((um : Int) : Rat) * ((vn : Int) : Rat) - ((un : Int) : Rat) * ((vm : Int) : Rat)).num = s := ⟨_, rfl⟩
        have HS := Lib.hid hs
        clear hs
        by_cases hz : s = 0
        · have hz1 : (s != 0) = false := by simp [hz]
          go_wp2_with (first
            | (go_at_call 81; (with_reducible refine Calls.cQ (refCrossC (by omega)) ?_); intros)
            | (go_at_call 54; (with_reducible refine Calls.cE (numSW HS) ?_); intros))
          go_meet
          exact ⟨inferInstance, inferInstance⟩
        · have hz1 : (s != 0) = true := by simp [hz]
          go_wp2_with (first
            | (go_at_call 81; (with_reducible refine Calls.cQ (refCrossC (by omega)) ?_); intros)
            | (go_at_call 54; (with_reducible refine Calls.cE (numSW HS) ?_); intros))
          have hp' := hp.out
          have hu' := hu.out
          have hv' := hv.out
          have hne : ¬ (um = vm ∧ un = vn) := by
            rintro ⟨rfl, rfl⟩
            have h2 := HS.out
            rw [show ((um : Int) : Rat) * ((un : Int) : Rat) - ((un : Int) : Rat) * ((um : Int) : Rat) = 0 by grind] at h2
            exact hz h2.symm
          refine rgn [] [] fun hHeld => ?_
          refine tk 0 hHeld ?_
          refine tk 1 hHeld ?_
          refine tk 3 hHeld ?_
          refine tk 5 hHeld ?_
          refine tk 7 hHeld ?_
          refine st 2 fun K hK => ?_
          go_simp
          (with_reducible refine Calls.cQ (numOfC (by omega)) ?_); intros
          refine hd hK ?_
          clear hHeld hK K
          intro hHeld
          refine st 4 fun K hK => ?_
          go_simp
          (with_reducible refine Calls.cPQ (refPAddC (by omega)) ?_); intro y1 _ gx1 ax1 lx1 cx1 aax1 llx1 ccx1 gy1 ay1 ly1 cy1 aay1 lly1 ccy1 _ _
          refine hd hK ?_
          clear hHeld hK K
          intro hHeld
          refine st 6 fun K hK => ?_
          go_simp
          (with_reducible refine Calls.cQ (numOfC (by omega)) ?_); intros
          refine hd hK ?_
          clear hHeld hK K
          intro hHeld
          refine st 8 fun K hK => ?_
          go_simp
          (with_reducible refine Calls.cPQ (refPAddC (by omega)) ?_); intro y2 _ gx2 ax2 lx2 cx2 aax2 llx2 ccx2 gy2 ay2 ly2 cy2 aay2 lly2 ccy2 _ _
          refine hd hK ?_
          clear hHeld hK K
          intro hHeld
          refine st 9 fun K hK => ?_
          go_simp
          refine hd hK ?_
          clear hHeld hK K
          intro hHeld
          refine tk 10 hHeld ?_
          refine dn ?_
          clear hHeld
          go_wp2
          go_ret
          exact RingRet.fin (V := [⟨pgx, pax, plx, pcx, paax, pllx, pccx, pgy, pay, ply, pcy, paay, plly, pccy⟩, ⟨gx1, ax1, lx1, cx1, aax1, llx1, ccx1, gy1, ay1, ly1, cy1, aay1, lly1, ccy1⟩, ⟨gx2, ax2, lx2, cx2, aax2, llx2, ccx2, gy2, ay2, ly2, cy2, aay2, lly2, ccy2⟩]) (L := [(((pm : Int) : Rat), ((pn : Int) : Rat)), (((pm + um : Int) : Rat), ((pn + un : Int) : Rat)), (((pm + vm : Int) : Rat), ((pn + vn : Int) : Rat))]) (hs := Sl.ofBx (Bx.re rfl)) (hp := (PsQ.snoc (a := ⟨gx2, ax2, lx2, cx2, aax2, llx2, ccx2, gy2, ay2, ly2, cy2, aay2, lly2, ccy2⟩) (x := ((pm + vm : Int) : Rat)) (y := ((pn + vn : Int) : Rat)) (PsQ.snoc (a := ⟨gx1, ax1, lx1, cx1, aax1, llx1, ccx1, gy1, ay1, ly1, cy1, aay1, lly1, ccy1⟩) (x := ((pm + um : Int) : Rat)) (y := ((pn + un : Int) : Rat)) (PsQ.snoc (a := ⟨pgx, pax, plx, pcx, paax, pllx, pccx, pgy, pay, ply, pcy, paay, plly, pccy⟩) (x := ((pm : Int) : Rat)) (y := ((pn : Int) : Rat)) PsQ.nil inferInstance inferInstance (Nat.le_refl _) (Nat.le_refl _)) (CQ.small (CQ.cast inferInstance (one_mul_add _ _) (Nat.le_refl _)) (by omega)) (CQ.small (CQ.cast inferInstance (one_mul_add _ _) (Nat.le_refl _)) (by omega)) (Nat.le_refl _) (Nat.le_refl _)) (CQ.small (CQ.cast inferInstance (one_mul_add _ _) (Nat.le_refl _)) (by omega)) (CQ.small (CQ.cast inferInstance (one_mul_add _ _) (Nat.le_refl _)) (by omega)) (Nat.le_refl _) (Nat.le_refl _))) ⟨ring3 (pne (by omega)) (pne (by omega)) (pne (by omega)), (IntL.snoc (IntL.snoc (IntL.snoc IntL.nil (by omega) (by omega)) (by omega) (by omega)) (by omega) (by omega)), (by simp)⟩ Lo.new
      · have h1' : (v0 == 1) = false := beq_false_of_ne h1
        have h0' : (v0 == 0) = false := beq_false_of_ne h0
        go_wp2_with fail
        go_meet
        exact ⟨inferInstance, inferInstance⟩
  case rest =>
    obtain ⟨c1, c2⟩ := hcut
    go_wp2_with fail
    with_reducible refine Calls.cNext (nextC (by omega)) ?_
    intro W1 _ _ x x1 x2
    obtain ⟨X, hX, hX6⟩ : ∃ X : Nat, 3 + x = (X : Int) ∧ X ≤ 6 := ⟨(3 + x).toNat, by omega, by omega⟩
    have e1 : IntKind.i64.wrap (3 + x) = (X : Int) := by rw [wr_in (by omega) (by omega), hX]
    go_wp2_with fail
    go_loopw [11, 10] (fun i o wr => ∃ (m : Nat) (U : List AV) (N : List (Rat × Rat)), i = .int .i64 (m : Int) ∧ Rn wr o 47 6 U.length (rowA U) w.heap.size wr ∧ PsQ wr U N 4 ∧ Hid (Steps N ∧ IntL N ∧ U.length + m ≤ 6) ∧ Ct wr t ∧ Gb w wr t) (fun i _ _ => (intOf i).toNat)
    case atStart => exact ⟨X, [], [], rfl, Rn.cast2 (Rn.nil (Gb.out (w := w) (g := t)).size) rfl rfl, PsQ.nil, Lib.hid ⟨Steps.nil, IntL.nil, by simpa using hX6⟩, inferInstance, inferInstance⟩
    case round =>
      obtain ⟨m1, U, N, rfl, i1, i2, hI, i3, i4⟩ := hrel
      have kt : Tp1 w wr t := ⟨i4.out, ht.out⟩
      obtain ⟨a3, c3, rfl⟩ := i1.slice
      obtain ⟨hc1, hc2⟩ := i1.cap
      cases m1 with
      | succ m =>
        have hm : 0 < ((m + 1 : Nat) : Int) := by omega
        have hm2 : (0 : Int) < (m : Int) + 1 := by omega
        have em : IntKind.i64.wrap ((m : Int) + 1 - 1) = (m : Int) := by rw [wr_in (by have := hI.out; omega) (by have := hI.out; omega)]; omega
        have em2 : IntKind.i64.wrap (m : Int) = (m : Int) := wr_in (by have := hI.out; omega) (by have := hI.out; omega)
        go_wp2_with fail
        with_reducible refine Calls.cTPI tapePI ?_
        intro W2 _ _ pgx pax plx pcx paax pllx pccx pgy pay ply pcy paay plly pccy pm pn _ _ hp
        have hp' := hp.out
        by_cases hU : U = []
        · subst hU
          have hN : N = [] := List.eq_nil_of_length_eq_zero i2.len.symm
          have i9 : Rn wr (.slice a3 0 c3) 47 6 0 [] w.heap.size wr := i1
          clear i1
          go_wp2_with fail
          refine rgn [] [] fun hHeld => ?_
          refine tk 0 hHeld ?_
          refine tk 1 hHeld ?_
          refine tk 2 hHeld ?_
          refine tk 3 hHeld ?_
          refine tkU 4 hHeld ?_
          refine tkU 5 hHeld ?_
          refine tkU 6 hHeld ?_
          refine tkU 7 hHeld ?_
          refine tkU 8 hHeld ?_
          refine tkU 9 hHeld ?_
          refine tkU 10 hHeld ?_
          refine tkU 11 hHeld ?_
          refine tkU 12 hHeld ?_
          refine tk 13 hHeld ?_
          refine dn ?_
          clear hHeld
          go_wp2_with (at_builtin; go_loud (refine app_rn1 (v := .slice a3 0 c3) rfl (.tmp 92) (.tmp 94) 61 rfl Tryz.underlying61 info_q rfl (by decide) (by decide) (by decide) inferInstance rfl (by simp) rfl (by rfl) ?h1 ?h2 (by have := hI.out; omega) ?_); (case h1 => exact AV.one ⟨_, _, _, _, _, _, _, _, _, _, _, _, _, _⟩); (case h2 => exact AV.nd ⟨_, _, _, _, _, _, _, _, _, _, _, _, _, _⟩); intro g2 c2 w2 i9 i10 i11)
          go_roundw
          case rel => exact ⟨m, ([] : List AV) ++ [⟨pgx, pax, plx, pcx, paax, pllx, pccx, pgy, pay, ply, pcy, paay, plly, pccy⟩], N ++ [(((pm : Int) : Rat), ((pn : Int) : Rat))], by go_num, Rn.cast2 (inferInstance) (by simp) rfl, PsQ.add (Nat.le_refl _) (Nat.le_refl _), Lib.hid ⟨Steps.snoc hI.out.1 (.inl hN), IntL.snoc hI.out.2.1 (by omega) (by omega), by have := hI.out; rw [List.length_append, List.length_singleton]; omega⟩, inferInstance, inferInstance⟩
          case measure => simp [intOf]
        · have hU0 : 0 < U.length := List.length_pos_iff.2 hU
          have hU1 : ¬ ((U.length : Int) = 0) := by omega
          have hU2 : ¬ (U.length = 0) := by omega
          have hU3 : ((U.length : Int) == 0) = false := beq_false_of_ne hU1
          obtain ⟨j, hj⟩ : ∃ j, U.length = j + 1 := ⟨U.length - 1, by omega⟩
          have hjl : j < U.length := by omega
          have lj : LtN j U.length := ⟨hjl⟩
          have hjl' : (j : Int) < U.length := by omega
          have ej : IntKind.i64.wrap ((U.length : Int) - 1) = (j : Int) := by rw [wr_in (by have := hI.out; omega) (by have := hI.out; omega)]; omega
          have HJ := Lib.hid hj
          clear hj
          have i5 : Rn W2 (.slice a3 U.length c3) 47 6 U.length (rowA U) w.heap.size wr := inferInstance
          obtain ⟨g2, rfl, hA2⟩ := (Sl.ofRn (h := i5)).form hU0
          by_cases hs : pg N j = (((pm : Int) : Rat), ((pn : Int) : Rat))
          · have HV : Hid ((decide ((pg N j).1 = ((pm : Int) : Rat)) && decide ((pg N j).2 = ((pn : Int) : Rat))) = true) := Lib.hid (by rw [hs]; simp)
            clear hs
            go_wp2_with fail
            refine rgn [] [] fun hHeld => ?_
            refine tk 0 hHeld ?_
            refine tk 1 hHeld ?_
            refine tk 2 hHeld ?_
            refine tk 3 hHeld ?_
            refine tk 4 hHeld ?_
            refine tk 5 hHeld ?_
            refine tk 6 hHeld ?_
            refine tk 7 hHeld ?_
            refine tk 8 hHeld ?_
            refine tk 9 hHeld ?_
            refine tk 10 hHeld ?_
            refine st 11 fun K hK => ?_
            go_simp
            (with_reducible refine Calls.cE (refSameV (by omega) HV) ?_); intros
            refine hd hK ?_
            clear hHeld hK K
            intro hHeld
            refine tk 12 hHeld ?_
            refine tk 13 hHeld ?_
            refine dn ?_
            clear hHeld
            go_wp2
            go_roundw
            case rel => exact ⟨m, U, N, by go_num, Rn.cast2 inferInstance rfl rfl, inferInstance, Lib.hid ⟨hI.out.1, hI.out.2.1, by have := hI.out; omega⟩, inferInstance, inferInstance⟩
            case measure => simp [intOf]
          · have HV : Hid ((decide ((pg N j).1 = ((pm : Int) : Rat)) && decide ((pg N j).2 = ((pn : Int) : Rat))) = false) := Lib.hid (by
              rw [Prod.ext_iff] at hs
              simpa using hs)
            have HNE := Lib.hid hs
            clear hs
            go_wp2_with fail
            refine rgn [] [] fun hHeld => ?_
            refine tk 0 hHeld ?_
            refine tk 1 hHeld ?_
            refine tk 2 hHeld ?_
            refine tk 3 hHeld ?_
            refine tk 4 hHeld ?_
            refine tk 5 hHeld ?_
            refine tk 6 hHeld ?_
            refine tk 7 hHeld ?_
            refine tk 8 hHeld ?_
            refine tk 9 hHeld ?_
            refine tk 10 hHeld ?_
            refine st 11 fun K hK => ?_
            go_simp
            (with_reducible refine Calls.cE (refSameV (by omega) HV) ?_); intros
            refine hd hK ?_
            clear hHeld hK K
            intro hHeld
            refine tk 12 hHeld ?_
            refine tk 13 hHeld ?_
            refine dn ?_
            clear hHeld
            go_wp2_with (at_builtin; go_loud (refine app_rn1 (v := .slice (some ⟨g2, 0, none⟩) U.length c3) rfl (.tmp 92) (.tmp 94) 61 rfl Tryz.underlying61 info_q rfl (by decide) (by decide) (by decide) inferInstance rfl (rowA_nd _) rfl (by rfl) ?h1 ?h2 (by have := hI.out; omega) ?_); (case h1 => exact AV.one ⟨_, _, _, _, _, _, _, _, _, _, _, _, _, _⟩); (case h2 => exact AV.nd ⟨_, _, _, _, _, _, _, _, _, _, _, _, _, _⟩); intro g2 c2 w2 i9 i10 i11)
            go_roundw
            case rel => exact ⟨m, U ++ [⟨pgx, pax, plx, pcx, paax, pllx, pccx, pgy, pay, ply, pcy, paay, plly, pccy⟩], N ++ [(((pm : Int) : Rat), ((pn : Int) : Rat))], by go_num, Rn.cast2 (inferInstance) (by simp) (by rw [rowA_snoc]; rfl), PsQ.add (Nat.le_refl _) (Nat.le_refl _), Lib.hid ⟨Steps.snoc hI.out.1 (.inr (by rw [show N.length - 1 = j by have := HJ.out; have := i2.len; omega]; exact HNE.out)), IntL.snoc hI.out.2.1 (by omega) (by omega), by have := hI.out; rw [List.length_append, List.length_singleton]; omega⟩, inferInstance, inferInstance⟩
            case measure => simp [intOf]
      | zero =>
        have hU6 : U.length ≤ 6 := by have := hI.out; omega
        have hSt := Lib.hid hI.out.1
        have hIn := Lib.hid hI.out.2.1
        have HLO := Lib.hid (i1.lo 0 0)
        clear hI
        rw [show (((0 : Nat)) : Int) = 0 from rfl]
        go_wp2_with fail
        go_loopw [10] (fun o wx => ∃ (V : List AV) (M : List (Rat × Rat)), o = .slice a3 V.length c3 ∧ Hid (V.length ≤ c3) ∧ Sl wx (.slice a3 V.length c3) V.length (rowA V) wr ∧ PsQ wx V M 4 ∧ Hid (Steps M ∧ IntL M ∧ V.length ≤ 6) ∧ Kp wr wx) (fun o _ => slLen o)
        case atStart => exact ⟨U, N, rfl, Lib.hid hc1, Sl.ofRn (h := i1.here), i2, Lib.hid ⟨hSt.out, hIn.out, hU6⟩, inferInstance⟩
        case round =>
          obtain ⟨V, M, rfl, hVc, j1, j2, hI, j3⟩ := hrel
          have kx := Kp1.mk j3.out
          clear i1 i2 hU6 hSt hIn hc1
          have hV6 : V.length ≤ 6 := hI.out.2.2
          by_cases h1 : 1 < V.length
          · have h1' : 1 < (V.length : Int) := by omega
            obtain ⟨j, hj⟩ : ∃ j, V.length = j + 1 := ⟨V.length - 1, by omega⟩
            have hjl : j < V.length := by omega
            have h0l : 0 < V.length := by omega
            have lj : LtN j V.length := ⟨hjl⟩
            have l0 : LtN 0 V.length := ⟨h0l⟩
            have hjl' : (j : Int) < V.length := by omega
            have h0l' : (0 : Int) < V.length := by omega
            have ej : IntKind.i64.wrap ((V.length : Int) - 1) = (j : Int) := by rw [wr_in (by omega) (by omega)]; omega
            have hjc : (j : Int) ≤ c3 := by have := hVc.out; omega
            have HJ := Lib.hid hj
            clear hj
            obtain ⟨g2, rfl, hA2⟩ := j1.form h0l
            by_cases hs : pg M 0 = pg M j
            · have HV : Hid ((decide ((pg M 0).1 = (pg M j).1) && decide ((pg M 0).2 = (pg M j).2)) = true) := Lib.hid (by rw [hs]; simp)
              clear hs
              go_wp2_with fail
              refine rgn [] [] fun hHeld => ?_
              refine tk 0 hHeld ?_
              refine tk 1 hHeld ?_
              refine tk 2 hHeld ?_
              refine tk 3 hHeld ?_
              refine tk 4 hHeld ?_
              refine tk 5 hHeld ?_
              refine tk 6 hHeld ?_
              refine tk 7 hHeld ?_
              refine tk 8 hHeld ?_
              refine tk 9 hHeld ?_
              refine tk 10 hHeld ?_
              refine tk 11 hHeld ?_
              refine tk 12 hHeld ?_
              refine st 13 fun K hK => ?_
              go_simp
              (with_reducible refine Calls.cE (refSameV (by omega) HV) ?_); intros
              refine hd hK ?_
              clear hHeld hK K
              intro hHeld
              refine tk 14 hHeld ?_
              refine dn ?_
              clear hHeld
              go_wp2
              go_roundw
              case rel => exact ⟨V.take j, M.take j, by rw [show (V.take j).length = j by rw [List.length_take]; omega], Lib.hid (by rw [List.length_take]; omega), Sl.takeI (n := V.length) j (by omega), PsQ.take inferInstance j, Lib.hid ⟨hI.out.1.take j, hI.out.2.1.take j, by rw [List.length_take]; omega⟩, inferInstance⟩
              case measure => (simp only [slLen]; have := HJ.out; omega)
            · have HV : Hid ((decide ((pg M 0).1 = (pg M j).1) && decide ((pg M 0).2 = (pg M j).2)) = false) := Lib.hid (by
                rw [Prod.ext_iff] at hs
                simpa using hs)
              have HNE := Lib.hid (show ¬ pg M 0 = pg M (V.length - 1) by rw [show V.length - 1 = j by have := HJ.out; omega]; exact hs)
              clear hs
              go_wp2_with fail
              refine rgn [] [] fun hHeld => ?_
              refine tk 0 hHeld ?_
              refine tk 1 hHeld ?_
              refine tk 2 hHeld ?_
              refine tk 3 hHeld ?_
              refine tk 4 hHeld ?_
              refine tk 5 hHeld ?_
              refine tk 6 hHeld ?_
              refine tk 7 hHeld ?_
              refine tk 8 hHeld ?_
              refine tk 9 hHeld ?_
              refine tk 10 hHeld ?_
              refine tk 11 hHeld ?_
              refine tk 12 hHeld ?_
              refine st 13 fun K hK => ?_
              go_simp
              (with_reducible refine Calls.cE (refSameV (by omega) HV) ?_); intros
              refine hd hK ?_
              clear hHeld hK K
              intro hHeld
              refine tk 14 hHeld ?_
              refine dn ?_
              clear hHeld
              have HD := Lib.hid (show True from trivial)
              obtain ⟨dd, hdd⟩ : ∃ dd, dsc M M.length = dd := ⟨_, rfl⟩
              have hlN := j2.len
              have hle := dsc_le M M.length
              by_cases h3 : dd < 3
              · have h3' : (dd : Int) < 3 := by omega
                have HDD := Lib.hid hdd
                clear hdd hle hlN
                go_wp2_with (first
                  | (go_at_call 84; (with_reducible refine Calls.cLen (sortedC (V := V) (by omega) (by have := hI.out; omega)) ?_); intro y9 _ a9 c9; rw [HDD.out]))
                go_wp2_with fail
                with_reducible refine Calls.cPQ (refXyC (by omega)) ?_
                intro y1 _ gx1 ax1 lx1 cx1 aax1 llx1 ccx1 gy1 ay1 ly1 cy1 aay1 lly1 ccy1 _ _
                go_wp2_with fail
                with_reducible refine Calls.cPQ (refXyC (by omega)) ?_
                intro y2 _ gx2 ax2 lx2 cx2 aax2 llx2 ccx2 gy2 ay2 ly2 cy2 aay2 lly2 ccy2 _ _
                go_wp2_with fail
                with_reducible refine Calls.cPQ (refXyC (by omega)) ?_
                intro y3 _ gx3 ax3 lx3 cx3 aax3 llx3 ccx3 gy3 ay3 ly3 cy3 aay3 lly3 ccy3 _ _
                go_wp2_with fail
                go_ret
                exact RingRet.fin (V := [⟨gx1, ax1, lx1, cx1, aax1, llx1, ccx1, gy1, ay1, ly1, cy1, aay1, lly1, ccy1⟩, ⟨gx2, ax2, lx2, cx2, aax2, llx2, ccx2, gy2, ay2, ly2, cy2, aay2, lly2, ccy2⟩, ⟨gx3, ax3, lx3, cx3, aax3, llx3, ccx3, gy3, ay3, ly3, cy3, aay3, lly3, ccy3⟩]) (L := [(((0 : Int) : Rat), ((0 : Int) : Rat)), (((2 : Int) : Rat), ((0 : Int) : Rat)), (((0 : Int) : Rat), ((2 : Int) : Rat))]) (hs := Sl.ofBx (Bx.re rfl)) (hp := (PsQ.snoc (a := ⟨gx3, ax3, lx3, cx3, aax3, llx3, ccx3, gy3, ay3, ly3, cy3, aay3, lly3, ccy3⟩) (x := ((0 : Int) : Rat)) (y := ((2 : Int) : Rat)) (PsQ.snoc (a := ⟨gx2, ax2, lx2, cx2, aax2, llx2, ccx2, gy2, ay2, ly2, cy2, aay2, lly2, ccy2⟩) (x := ((2 : Int) : Rat)) (y := ((0 : Int) : Rat)) (PsQ.snoc (a := ⟨gx1, ax1, lx1, cx1, aax1, llx1, ccx1, gy1, ay1, ly1, cy1, aay1, lly1, ccy1⟩) (x := ((0 : Int) : Rat)) (y := ((0 : Int) : Rat)) PsQ.nil inferInstance inferInstance (Nat.le_refl _) (Nat.le_refl _)) inferInstance inferInstance (Nat.le_refl _) (Nat.le_refl _)) inferInstance inferInstance (Nat.le_refl _) (Nat.le_refl _))) ⟨ring3 (pne (by omega)) (pne (by omega)) (pne (by omega)), (IntL.snoc (IntL.snoc (IntL.snoc IntL.nil (by omega) (by omega)) (by omega) (by omega)) (by omega) (by omega)), (by simp)⟩ Lo.new
              · have h3' : ¬ ((dd : Int) < 3) := by omega
                have HDD := Lib.hid hdd
                have HLE := Lib.hid hle
                have HLN := Lib.hid hlN
                clear hdd hle hlN
                go_wp2_with (first
                  | (go_at_call 84; (with_reducible refine Calls.cLen (sortedC (V := V) (by omega) (by have := hI.out; omega)) ?_); intro y9 _ a9 c9; rw [HDD.out]))
                go_ret
                exact RingRet.fin (V := V) (L := M) ⟨Steps.ring hI.out.1 (by have := HDD.out; omega) (by rw [← HLN.out]; exact HNE.out), hI.out.2.1, hI.out.2.2⟩ (HLO.out.re _ _)
          · have h1' : ¬ (1 < (V.length : Int)) := by omega
            have h1d : decide (1 < V.length) = false := decide_eq_false h1
            have h1e : decide (1 < (V.length : Int)) = false := decide_eq_false h1'
            go_wp2_with fail
            refine rgn [] [] fun hHeld => ?_
            refine tk 0 hHeld ?_
            refine tk 1 hHeld ?_
            refine tk 2 hHeld ?_
            refine tk 3 hHeld ?_
            refine tkU 4 hHeld ?_
            refine tkU 5 hHeld ?_
            refine tkU 6 hHeld ?_
            refine tkU 7 hHeld ?_
            refine tkU 8 hHeld ?_
            refine tkU 9 hHeld ?_
            refine tkU 10 hHeld ?_
            refine tkU 11 hHeld ?_
            refine tkU 12 hHeld ?_
            refine tkU 13 hHeld ?_
            refine tk 14 hHeld ?_
            refine dn ?_
            clear hHeld
            have HD := Lib.hid (show True from trivial)
            obtain ⟨dd, hdd⟩ : ∃ dd, dsc M M.length = dd := ⟨_, rfl⟩
            have hlN := j2.len
            have hle := dsc_le M M.length
            by_cases h3 : dd < 3
            · have h3' : (dd : Int) < 3 := by omega
              have HDD := Lib.hid hdd
              clear hdd hle hlN
              go_wp2_with (first
                | (go_at_call 84; (with_reducible refine Calls.cLen (sortedC (V := V) (by omega) (by have := hI.out; omega)) ?_); intro y9 _ a9 c9; rw [HDD.out]))
              go_wp2_with fail
              with_reducible refine Calls.cPQ (refXyC (by omega)) ?_
              intro y1 _ gx1 ax1 lx1 cx1 aax1 llx1 ccx1 gy1 ay1 ly1 cy1 aay1 lly1 ccy1 _ _
              go_wp2_with fail
              with_reducible refine Calls.cPQ (refXyC (by omega)) ?_
              intro y2 _ gx2 ax2 lx2 cx2 aax2 llx2 ccx2 gy2 ay2 ly2 cy2 aay2 lly2 ccy2 _ _
              go_wp2_with fail
              with_reducible refine Calls.cPQ (refXyC (by omega)) ?_
              intro y3 _ gx3 ax3 lx3 cx3 aax3 llx3 ccx3 gy3 ay3 ly3 cy3 aay3 lly3 ccy3 _ _
              go_wp2_with fail
              go_ret
              exact RingRet.fin (V := [⟨gx1, ax1, lx1, cx1, aax1, llx1, ccx1, gy1, ay1, ly1, cy1, aay1, lly1, ccy1⟩, ⟨gx2, ax2, lx2, cx2, aax2, llx2, ccx2, gy2, ay2, ly2, cy2, aay2, lly2, ccy2⟩, ⟨gx3, ax3, lx3, cx3, aax3, llx3, ccx3, gy3, ay3, ly3, cy3, aay3, lly3, ccy3⟩]) (L := [(((0 : Int) : Rat), ((0 : Int) : Rat)), (((2 : Int) : Rat), ((0 : Int) : Rat)), (((0 : Int) : Rat), ((2 : Int) : Rat))]) (hs := Sl.ofBx (Bx.re rfl)) (hp := (PsQ.snoc (a := ⟨gx3, ax3, lx3, cx3, aax3, llx3, ccx3, gy3, ay3, ly3, cy3, aay3, lly3, ccy3⟩) (x := ((0 : Int) : Rat)) (y := ((2 : Int) : Rat)) (PsQ.snoc (a := ⟨gx2, ax2, lx2, cx2, aax2, llx2, ccx2, gy2, ay2, ly2, cy2, aay2, lly2, ccy2⟩) (x := ((2 : Int) : Rat)) (y := ((0 : Int) : Rat)) (PsQ.snoc (a := ⟨gx1, ax1, lx1, cx1, aax1, llx1, ccx1, gy1, ay1, ly1, cy1, aay1, lly1, ccy1⟩) (x := ((0 : Int) : Rat)) (y := ((0 : Int) : Rat)) PsQ.nil inferInstance inferInstance (Nat.le_refl _) (Nat.le_refl _)) inferInstance inferInstance (Nat.le_refl _) (Nat.le_refl _)) inferInstance inferInstance (Nat.le_refl _) (Nat.le_refl _))) ⟨ring3 (pne (by omega)) (pne (by omega)) (pne (by omega)), (IntL.snoc (IntL.snoc (IntL.snoc IntL.nil (by omega) (by omega)) (by omega) (by omega)) (by omega) (by omega)), (by simp)⟩ Lo.new
            · exfalso
              omega
end Go.Proofs.YtdlnoeegboapkaaGreatDoor

/- The least rotation: package geo and the reference; lists of points compared digit by digit. printed by a small program (mkrg10.py). -/
namespace Go.Proofs.YtdlnoeegboapkaaGreatDoor
open Go.RowKit
set_option maxRecDepth 100000
set_option maxHeartbeats 40000000
set_option synthInstance.maxSize 100000
set_option synthInstance.maxHeartbeats 1000000
set_option linter.unusedVariables false

theorem Sl.slice {W w0 : World} {v : Value} {n : Nat} {xs : List Value} (h : Sl W v n xs w0) : ∃ a c, v = .slice a n c := by
  rcases h.out with ⟨e1, e2⟩ | ⟨g, c, e1, _⟩
  · exact ⟨none, 0, by rw [e1, e2]⟩
  · exact ⟨_, c, e1⟩
theorem Sl.cast2 {W w0 : World} {v : Value} {n n' : Nat} {xs xs' : List Value} (h : Sl W v n xs w0) (e1 : n = n') (e2 : xs = xs') : Sl W v n' xs' W := by subst e1; subst e2; exact h.here
theorem cell_fz0 {W w0 : World} {g : Nat} {V : List FV} [h : At W g (rowF V) w0] (hk : 0 < V.length) : W.cell? ⟨g, 0, none⟩ = some (.int .i64 (fv V 0).nx) := by
  have := at_f h hk (j := 0) (by decide)
  rw [Nat.zero_mul, Nat.zero_add] at this; exact this
theorem cell_fz1 {W w0 : World} {g : Nat} {V : List FV} [h : At W g (rowF V) w0] (hk : 0 < V.length) : W.cell? ⟨g, 1, none⟩ = some (.int .i64 (fv V 0).dx) := by
  have := at_f h hk (j := 1) (by decide)
  rw [Nat.zero_mul, Nat.zero_add] at this; exact this
theorem cell_fz2 {W w0 : World} {g : Nat} {V : List FV} [h : At W g (rowF V) w0] (hk : 0 < V.length) : W.cell? ⟨g, 2, none⟩ = some (.pointer (fv V 0).px) := by
  have := at_f h hk (j := 2) (by decide)
  rw [Nat.zero_mul, Nat.zero_add] at this; exact this
theorem cell_fz3 {W w0 : World} {g : Nat} {V : List FV} [h : At W g (rowF V) w0] (hk : 0 < V.length) : W.cell? ⟨g, 3, none⟩ = some (.int .i64 (fv V 0).ny) := by
  have := at_f h hk (j := 3) (by decide)
  rw [Nat.zero_mul, Nat.zero_add] at this; exact this
theorem cell_fz4 {W w0 : World} {g : Nat} {V : List FV} [h : At W g (rowF V) w0] (hk : 0 < V.length) : W.cell? ⟨g, 4, none⟩ = some (.int .i64 (fv V 0).dy) := by
  have := at_f h hk (j := 4) (by decide)
  rw [Nat.zero_mul, Nat.zero_add] at this; exact this
theorem cell_fz5 {W w0 : World} {g : Nat} {V : List FV} [h : At W g (rowF V) w0] (hk : 0 < V.length) : W.cell? ⟨g, 5, none⟩ = some (.pointer (fv V 0).py) := by
  have := at_f h hk (j := 5) (by decide)
  rw [Nat.zero_mul, Nat.zero_add] at this; exact this
attribute [local go_sem] cell_fz0 cell_fz1 cell_fz2 cell_fz3 cell_fz4 cell_fz5
theorem canonC {w w0 : World} {a : Option Addr} {n c : Nat} {V : List FV} {L : List (Rat × Rat)} {k : Nat} [hs : Sl w (.slice a n c) V.length (rowF V) w0] [hp : PsF w V L k] (b : k ≤ 20000) (hV : 0 < V.length ∧ V.length ≤ 1000) :
    Calls Tryz.prog 85 #[.slice a n c] w (PsFRet w (canonL L) k) := by
  obtain rfl := hs.len
  have hlen := Lib.hid hp.len
  have hcap := hs.capc
  obtain ⟨g, rfl, hA⟩ := hs.form (by omega)
  go_enter Tryz.func85, Tryz.ntmps85
  go_wp2_with fail
  go_loopw [9, 3] (fun x o wr => ∃ (i : Nat) (U : List FV), x = .int .i64 (i : Int) ∧ i ≤ V.length ∧ Sl wr o U.length (rowF U) wr ∧ Hid (U.length = V.length) ∧ PsF wr U (bst L i) k ∧ Kp w wr) (fun x _ _ => V.length - (intOf x).toNat)
  case atStart => exact ⟨0, V, rfl, by omega, hs.here, Lib.hid rfl, hp, inferInstance⟩
  case round =>
    obtain ⟨i, U, rfl, hi, i1, hU, i2, i3⟩ := hrel
    have kw := Kp1.mk i3.out
    obtain ⟨a3, c3, rfl⟩ := i1.slice
    by_cases hlt : i < V.length
    · have hlt' : (i : Int) < V.length := by omega
      have lq : LtN i V.length := ⟨hlt⟩
      have hU0 : 0 < U.length := by rw [hU.out]; exact hV.1
      have hU0' : (0 : Int) < U.length := by omega
      have l0 : LtN 0 U.length := ⟨hU0⟩
      have hUl : U.length ≤ 1000 := by rw [hU.out]; exact hV.2
      have ew : IntKind.i64.wrap ((i : Int) + 1) = (i : Int) + 1 := wr_in (by omega) (by omega)
      obtain ⟨g2, rfl, hA2⟩ := i1.form hU0
      have HL := Lib.hid (show i < L.length by rw [← hlen.out]; exact hlt)
      obtain ⟨v, hv0⟩ : ∃ v, cmpP (pg L i) (pg (bst L i) 0) = v := ⟨_, rfl⟩
      have HV : Hid (cmpP ((pg L i).1, (pg L i).2) ((pg (bst L i) 0).1, (pg (bst L i) 0).2) = v) := Lib.hid hv0
      have HV0 := Lib.hid hv0
      clear hv0
      by_cases hz : v ≤ 0
      · obtain ⟨r, hr0⟩ : ∃ r, cmpLs (rot L i) (bst L i) = r := ⟨_, rfl⟩
        have HR := Lib.hid hr0
        clear hr0
        by_cases hn : r < 0
        · go_wp2_with fail
          refine rgn [] [] fun hHeld => ?_
          refine tk 0 hHeld ?_
          refine tk 1 hHeld ?_
          refine tk 2 hHeld ?_
          refine tk 3 hHeld ?_
          refine tk 4 hHeld ?_
          refine tk 5 hHeld ?_
          refine tk 6 hHeld ?_
          refine st 7 fun K hK => ?_
          go_simp
          (with_reducible refine Calls.cE (ptCmpV (by omega) HV) ?_); intros
          refine hd hK ?_
          clear hHeld hK K
          intro hHeld
          refine tk 8 hHeld ?_
          refine dn ?_
          clear hHeld
          go_wp2_with (first
            | (go_at_call 149; (with_reducible refine Calls.cPsFRet (rotC hlt hV.2) ?_); intro w5 _ a5 c5 V5 is5 ip5; have hV5 : V5.length ≤ 1000 := by rw [ip5.len, rot_len, ← hlen.out]; exact hV.2)
            | (go_at_call 87; (with_reducible refine Calls.cE (ringCmpV (V := V5) (V2 := U) (by omega) ⟨hV5, hUl⟩ HR) ?_); intros))
          go_roundw
          case rel => exact ⟨i + 1, V5, by go_num, by omega, Sl.cast2 inferInstance rfl rfl, Lib.hid (by rw [ip5.len, rot_len, ← hlen.out]), by rw [bst_better (by rw [HR.out]; exact hn)]; infer_instance, inferInstance⟩
          case measure => simp [intOf]; omega
        · have hn2 : 0 ≤ r := by omega
          go_wp2_with fail
          refine rgn [] [] fun hHeld => ?_
          refine tk 0 hHeld ?_
          refine tk 1 hHeld ?_
          refine tk 2 hHeld ?_
          refine tk 3 hHeld ?_
          refine tk 4 hHeld ?_
          refine tk 5 hHeld ?_
          refine tk 6 hHeld ?_
          refine st 7 fun K hK => ?_
          go_simp
          (with_reducible refine Calls.cE (ptCmpV (by omega) HV) ?_); intros
          refine hd hK ?_
          clear hHeld hK K
          intro hHeld
          refine tk 8 hHeld ?_
          refine dn ?_
          clear hHeld
          go_wp2_with (first
            | (go_at_call 149; (with_reducible refine Calls.cPsFRet (rotC hlt hV.2) ?_); intro w5 _ a5 c5 V5 is5 ip5; have hV5 : V5.length ≤ 1000 := by rw [ip5.len, rot_len, ← hlen.out]; exact hV.2)
            | (go_at_call 87; (with_reducible refine Calls.cE (ringCmpV (V := V5) (V2 := U) (by omega) ⟨hV5, hUl⟩ HR) ?_); intros))
          go_roundw
          case rel => exact ⟨i + 1, U, by go_num, by omega, Sl.cast2 inferInstance rfl rfl, hU, by rw [bst_same (by rw [HR.out]; omega)]; infer_instance, inferInstance⟩
          case measure => simp [intOf]; omega
      · have hz2 : 0 < v := by omega
        go_wp2_with fail
        refine rgn [] [] fun hHeld => ?_
        refine tk 0 hHeld ?_
        refine tk 1 hHeld ?_
        refine tk 2 hHeld ?_
        refine tk 3 hHeld ?_
        refine tk 4 hHeld ?_
        refine tk 5 hHeld ?_
        refine tk 6 hHeld ?_
        refine st 7 fun K hK => ?_
        go_simp
        (with_reducible refine Calls.cE (ptCmpV (by omega) HV) ?_); intros
        refine hd hK ?_
        clear hHeld hK K
        intro hHeld
        refine tk 8 hHeld ?_
        refine dn ?_
        clear hHeld
        go_wp2
        go_roundw
        case rel => exact ⟨i + 1, U, by go_num, by omega, Sl.cast2 inferInstance rfl rfl, hU, by rw [bst_skip HL.out (by rw [HV0.out]; exact hz2)]; infer_instance, inferInstance⟩
        case measure => simp [intOf]; omega
    · obtain rfl : i = V.length := by omega
      go_wp2_with fail
      go_ret
      exact PsFRet.fin (V := U) (by rw [canonL, ← hlen.out]) (Nat.le_refl _)
theorem samePsC {w w0 w1 : World} {a a2 : Option Addr} {n c n2 c2 : Nat} {V V2 : List AV} {L M : List (Rat × Rat)} {k k2 : Nat} [hs : Sl w (.slice a n c) V.length (rowA V) w0] [hp : PsA w V L k] [hs2 : Sl w (.slice a2 n2 c2) V2.length (rowA V2) w1] [hp2 : PsA w V2 M k2] (hLM : L = M) (hV : V.length ≤ 1000000) :
    Calls Tryz.prog 30 #[.slice a n c, .slice a2 n2 c2] w (fun e w' => e = .returned (.bool true) ∧ Below w.heap.size w w') := by
  obtain rfl := hs.len
  obtain rfl := hs2.len
  have hlen : V2.length = V.length := by rw [hp2.len, hp.len, hLM]
  have HLM := Lib.hid hLM
  have hlen2 : ((V.length : Int) != (V2.length : Int)) = false := by rw [hlen]; simp
  have hlen3 : V.length = V2.length := hlen.symm
  have HLEN := Lib.hid hlen
  clear hLM hlen
  go_enter Tryz.func30, Tryz.ntmps30
  go_wp2_with fail
  go_loopw [13] (fun i wr => ∃ q : Nat, i = .int .i64 (q : Int) ∧ q ≤ V.length ∧ Kp w wr) (fun i _ => V.length - (intOf i).toNat)
  case atStart => exact ⟨0, rfl, by omega, inferInstance⟩
  case round =>
    obtain ⟨q, rfl, hq, i1⟩ := hrel
    have kw := Kp1.mk i1.out
    by_cases hlt : q < V.length
    · have hlt' : (q : Int) < V.length := by omega
      have hlt2 : q < V2.length := by rw [HLEN.out]; exact hlt
      have hlt2' : (q : Int) < V2.length := by omega
      have lq : LtN q V.length := ⟨hlt⟩
      have lq2 : LtN q V2.length := ⟨hlt2⟩
      have ew : IntKind.i64.wrap ((q : Int) + 1) = (q : Int) + 1 := wr_in (by omega) (by omega)
      obtain ⟨g, rfl, hA⟩ := hs.form (by omega)
      obtain ⟨g2, rfl, hA2⟩ := hs2.form (by omega)
      clear hlen3 hlen2
      go_wp2_with fail
      refine rgn [] [] fun hHeld => ?_
      refine tk 0 hHeld ?_
      refine tk 1 hHeld ?_
      refine tk 2 hHeld ?_
      refine tk 3 hHeld ?_
      refine tk 4 hHeld ?_
      refine tk 5 hHeld ?_
      refine tk 6 hHeld ?_
      refine tk 7 hHeld ?_
      refine st 8 fun K hK => ?_
      go_simp
      (with_reducible refine Calls.cE (samePC (by rw [HLM.out]) (by rw [HLM.out])) ?_); intros
      refine hd hK ?_
      clear hHeld hK K
      intro hHeld
      refine tk 9 hHeld ?_
      refine dn ?_
      clear hHeld
      go_wp2
      go_roundw
      case rel => exact ⟨q + 1, by go_num, by omega, inferInstance⟩
      case measure => simp [intOf]; omega
    · obtain rfl : q = V.length := by omega
      go_wp2_with fail
      go_ret
      exact E.fin rfl
theorem rCanonC {w w0 : World} {a : Option Addr} {n c : Nat} {V : List AV} {L : List (Rat × Rat)} {k : Nat} [hs : Sl w (.slice a n c) V.length (rowA V) w0] [hp : PsA w V L k] (b : k ≤ 18000) (hV : V.length ≤ 1000) (hR : RingOK L) :
    Calls Tryz.prog 28 #[.slice a n c] w (PsAEr w (canonL L) (k + 2)) := by
  have hpos := hR.pos
  have HR := Lib.hid hR
  clear hR
  go_enter Tryz.func28, Tryz.ntmps28
  go_wp2_with (first
    | (go_at_call 77; (with_reducible refine Calls.cPsFEr (ringOfOk (by omega) (by omega) HR.out) ?_); intro w1 _ a1 c1 V1 _ ip1; have hV1 : V1.length ≤ 1000 := (by rw [ip1.len, ← PsA.len (W := w) (V := V)]; exact hV); have hV2 : 0 < V1.length := (by rw [ip1.len]; exact hpos))
    | (go_at_call 85; (with_reducible refine Calls.cPsFRet (canonC (V := V1) (by omega) ⟨hV2, hV1⟩) ?_); intro w2 _ a2 c2 V2 _ ip2; have hV3 : V2.length ≤ 1000 := (by rw [ip2.len, canonL, bst_len, ← ip1.len]; exact hV1))
    | (go_at_call 86; (with_reducible refine Calls.cPsARet (ringApiC (V := V2) (by omega) (by omega)) ?_); intro w4 _ a4 c4 V4 _ ip4))
  go_ret2
  exact PsAEr.fin (V := V4) rfl (Nat.le_refl _)
end Go.Proofs.YtdlnoeegboapkaaGreatDoor

/- slices.Clone and slices.Reverse of a ring; ring.Reverse. printed by a small program (mkrg19.py). -/
namespace Go.Proofs.YtdlnoeegboapkaaGreatDoor
open Go.RowKit
set_option maxRecDepth 100000
set_option maxHeartbeats 40000000
set_option synthInstance.maxSize 100000
set_option synthInstance.maxHeartbeats 1000000
set_option linter.unusedVariables false

/-- A row of one's own as a box. -/
theorem Rn.box {W w0 : World} {g n c sz base : Nat} {e : TypeId} {xs : List Value} (h : Rn W (.slice (some ⟨g, 0, none⟩) n c) e sz n xs base w0) : ∃ Z, Bx W g e (xs ++ Z) ∧ ∀ u ∈ Z, isDigit32 u = false := by
  obtain ⟨t, l, h1, ht, hd⟩ := (h.nd g rfl).out
  rcases h.rw'.out.2 with ⟨e1, _⟩ | ⟨g', c', cur, e1, hb, hc, hn, hm, hs, htk⟩
  · cases e1
  · cases e1
    rw [h1] at hc
    cases hc
    have htk : l.take (n * sz) = xs := htk
    refine ⟨l.drop xs.length, ⟨?_⟩, fun u hu => hd u (List.mem_of_mem_drop hu)⟩
    rw [h1]
    have h2 : xs ++ l.drop xs.length = l := by
      have h3 := h.rw'.out.1
      conv => rhs; rw [← List.take_append_drop xs.length l]
      rw [h3, htk]
    rw [h2]
theorem cloneC {w w0 : World} {a : Option Addr} {n c : Nat} {V : List FV} {L : List (Rat × Rat)} {k : Nat} [hs : Sl w (.slice a n c) V.length (rowF V) w0] [hp : PsF w V L k] (hV0 : 0 < V.length) (hV : V.length ≤ 1000000) :
    Calls Tryz.prog 93 #[.slice a n c] w (fun e w' => ∃ g c' Z, e = .returned (.slice (some ⟨g, 0, none⟩) V.length c') ∧ (V.length ≤ c' ∧ c' ≤ maxLen) ∧ w.heap.size ≤ g ∧ Bx w' g 152 (rowF V ++ Z) ∧ (∀ u ∈ Z, isDigit32 u = false) ∧ Below w.heap.size w w') := by
  obtain rfl := hs.len
  have hlen := Lib.hid hp.len
  obtain ⟨g, rfl, hA⟩ := hs.form hV0
  have hnil : (binOp .eql 131 (.slice (some ⟨g, 0, none⟩) V.length c) (.slice none 0 0)).run Tryz.prog w = .ok (.bool false) w := Lib.run_eql_slice_nil w 131 152 _ _ _ 0 0 Tryz.underlying131
  go_enter Tryz.func93, Tryz.ntmps93
  go_wp2_with (at_builtin; refine wpList_plain rfl fun K hKK => ?_; refine appO_full (.tmp 5) (.tmp 6) 131 rfl Tryz.underlying131 info_f rfl (by decide) (by decide) inferInstance (n := 0) (xs := []) rfl (.inr ⟨_, rfl, fun j u hu => by simp at hu⟩) rfl (by simp) rfl (l := rowF V) (fun j u hu => by rw [add_off, Nat.zero_add]; exact (inferInstance : At _ g (rowF V) _).out _ _ hu) (rowF_len _) (rowF_nd _) (by omega) (by omega) ?_; intro g4 c4 W4 k4 i4; simp only [Nat.zero_add, List.nil_append] at i4 ⊢; refine hKK _ _ ?_)
  go_ret
  obtain ⟨Z, hb, hz⟩ := Rn.box i4
  exact ⟨_, _, Z, rfl, i4.cap, by have h5 := (Rn.lo (m := 0) (d := 0) i4).out g4 rfl; rw [World.size_alloc] at h5; omega, hb, hz, (inferInstance : Kp w _).out⟩
end Go.Proofs.YtdlnoeegboapkaaGreatDoor

/- slices.Reverse of a ring, by the shelf: its laying in plain words. -/
namespace Go.Proofs
open Go.Shelf Go.Lib
def Tryz.reversePt_ren : Ren := ⟨fun n => if n = 35 then 94 else n, fun n => if n = 22 then 131 else if n = 23 then 152 else n, fun n => n⟩
theorem Tryz.reversePt : SlLaysE0.n35 Tryz.prog Tryz.reversePt_ren :=
  { mixed := by kernel_rfl
    f35 := ⟨Tryz.f94.name, of_decide_eq_true (by kernel_rfl), Tryz.func94.trans (by kernel_rfl)⟩
    t0 := Tryz.underlying0, a0 := Tryz.isAgg0, z0 := Tryz.sizeOf0, v0 := Tryz.zeroValue0
    t3 := Tryz.underlying3, a3 := Tryz.isAgg3, z3 := Tryz.sizeOf3, v3 := Tryz.zeroValue3
    t4 := Tryz.underlying4, a4 := Tryz.isAgg4, z4 := Tryz.sizeOf4, v4 := Tryz.zeroValue4
    t22 := Tryz.underlying131, a22 := Tryz.isAgg131, z22 := Tryz.sizeOf131, v22 := Tryz.zeroValue131 }
end Go.Proofs

/- slices.Reverse of a ring's points, in this claim's words. -/
namespace Go.Proofs.YtdlnoeegboapkaaGreatDoor
open Go.RowKit Go.Sort
set_option linter.unusedVariables false
set_option linter.unusedSimpArgs false
set_option maxRecDepth 100000

instance : Inhabited FV := ⟨⟨0, 0, none, 0, 0, none⟩⟩
theorem flatK_row (M : List FV) : flatK FV.l 6 M.toArray = (rowF M).toArray := by
  apply Array.ext_getElem?
  intro t
  by_cases h : t < M.length * 6
  · have h1 : t / 6 < M.length := by omega
    have h2 : t % 6 < 6 := Nat.mod_lt _ (by omega)
    have e : t / 6 * 6 + t % 6 = t := by omega
    have h3 := flat_get FV.len M (t / 6) (t % 6) h1 h2
    rw [e] at h3
    have h4 : (rowF M)[t]? = M[t / 6].l[t % 6]? := h3
    have h6 : (rowF M).toArray[t]? = M[t / 6].l[t % 6]? := by rw [← h4]; simp
    rw [h6]
    rw [getElem?_pos (flatK FV.l 6 M.toArray) t (by simpa using h)]
    have h5 := get_flatK FV.l 6 M.toArray t (by simpa using h)
    rw [getElem!_pos _ t (by simpa using h)] at h5
    rw [h5]
    rw [getElem!_pos M.toArray (t / 6) (by simpa using h1)]
    rw [getElem!_pos (FV.l _) (t % 6) (by rw [FV.len]; exact h2)]
    rw [List.getElem?_eq_getElem (by rw [FV.len]; exact h2)]
    simp
  · rw [Array.getElem?_eq_none (by simpa using h), Array.getElem?_eq_none (by simp [rowF_len]; omega)]
theorem row_cells {w : World} {g : Nat} {x : FV} {M : List FV} {Z : List Value} {t : TypeId} (hb : Bx w g t (rowF (x :: M) ++ Z)) : HoldsK FV.l 6 w g 6 M.toArray := by
  unfold HoldsK Holds
  rw [flatK_row]
  intro j hj
  have hj' : j < (rowF M).length := by simpa using hj
  have e : rowF (x :: M) ++ Z = x.l ++ (rowF M ++ Z) := by simp [rowF]
  constructor
  · simp only [World.cell?, hb.out, e]
    rw [getElem!_pos _ j hj]
    simp only [List.getElem?_toArray, id]
    rw [List.getElem?_append_right (by rw [FV.len]; omega), FV.len, show 6 + j - 6 = j by omega, List.getElem?_append_left hj', List.getElem?_eq_getElem hj']
    simp
  · simp [World.frozen?, hb.out]
theorem putCells_row (x : FV) (M N : List FV) (Z : List Value) (h : N.length = M.length) : putCells id 6 (rowF N).toArray (rowF (x :: M) ++ Z).toArray = (rowF (x :: N) ++ Z).toArray := by
  have e : ∀ L : List FV, rowF (x :: L) ++ Z = x.l ++ (rowF L ++ Z) := fun L => by simp [rowF]
  have hn : (rowF N).length = (rowF M).length := by rw [rowF_len, rowF_len, h]
  rw [e, e]
  apply Array.ext_getElem?
  intro k
  simp only [putCells, Array.getElem?_mapIdx, List.getElem?_toArray, List.size_toArray]
  by_cases h1 : k < 6
  · rw [List.getElem?_append_left (l₁ := x.l) (l₂ := rowF M ++ Z) (by rw [FV.len]; exact h1), List.getElem?_append_left (l₁ := x.l) (l₂ := rowF N ++ Z) (by rw [FV.len]; exact h1)]
    simp [show ¬ (6 ≤ k) by omega]
  · rw [List.getElem?_append_right (l₁ := x.l) (l₂ := rowF M ++ Z) (by rw [FV.len]; omega), List.getElem?_append_right (l₁ := x.l) (l₂ := rowF N ++ Z) (by rw [FV.len]; omega), FV.len]
    by_cases h2 : k - 6 < (rowF N).length
    · have h3 : k - 6 < (rowF M).length := by omega
      rw [List.getElem?_append_left (l₁ := rowF M) h3, List.getElem?_append_left (l₁ := rowF N) h2, List.getElem?_eq_getElem h3, List.getElem?_eq_getElem h2, Option.map_some, if_pos (by omega)]
      rw [getElem!_pos _ (k - 6) (by simpa using h2)]
      simp
    · rw [List.getElem?_append_right (l₁ := rowF M) (by omega), List.getElem?_append_right (l₁ := rowF N) (by omega), hn]
      cases Z[k - 6 - (rowF M).length]? with
      | none => rfl
      | some v => rw [Option.map_some, if_neg (by omega)]
theorem sliceRevS {w : World} {g c : Nat} {x : FV} {M : List FV} {Z : List Value} [hb : Bx w g 152 (rowF (x :: M) ++ Z)] (hM : M.length ≤ 1000000) :
    Calls Tryz.prog 94 #[.slice (some ⟨g, 6, none⟩) M.length c] w (fun e w' => e = .returned (.tuple #[]) ∧ Bx w' g 152 (rowF (x :: M.reverse) ++ Z) ∧ w.grownBy w' (some g)) := by
  have aE : ∀ w, (isAgg 152).run Tryz.prog w = .ok true w := fun w => by
    unfold isAgg
    rw [Sem.run_bind, run_underlying Tryz.underlying152 w]
    rfl
  have zE : ∀ w, (Go.sizeOf 152).run Tryz.prog w = .ok 6 w := fun w => by
    have hi : (Tryz.prog.info? 152).map (·.size) = some 6 := by kernel_rfl
    obtain ⟨i0, h0, h1⟩ := Option.map_eq_some_iff.1 hi
    simp [Go.sizeOf, typeInfo, h0, h1]
  have h := AnyQ.slices_Reverse Tryz.reversePt 6 aE zE FV.l FV.len FV.one g 6 c M.toArray w (row_cells hb) (by simp; omega)
  rw [List.size_toArray] at h
  refine h.mono ?_
  rintro e w' ⟨rfl, n, rfl⟩
  refine ⟨rfl, ⟨?_⟩, ?_⟩
  · rw [List.reverse_toArray, putRowK, flatK_row, putRow, mapBlock]
    simp only [Array.getElem?_modify, if_true]
    show (w.heap[g]?).map _ = _
    rw [hb.out, Option.map_some]
    show some (Obj.cells (putCells id 6 (rowF M.reverse).toArray (rowF (x :: M) ++ Z).toArray) _ _) = _
    rw [putCells_row x M M.reverse Z (by simp)]
  · refine ⟨rfl, rfl, rfl, by rw [putRowK, size_putRow]; exact Nat.le_refl _, fun k _ hk => ?_⟩
    rw [putRowK, putRow, mapBlock]
    simp only [Array.getElem?_modify]
    rw [if_neg (fun e => hk (by rw [e]))]
    rfl
end Go.Proofs.YtdlnoeegboapkaaGreatDoor

/- ring.Reverse. printed by a small program (mkrg21.py). -/
namespace Go.Proofs.YtdlnoeegboapkaaGreatDoor
open Go.RowKit
set_option maxRecDepth 100000
set_option maxHeartbeats 40000000
set_option synthInstance.maxSize 100000
set_option synthInstance.maxHeartbeats 1000000
set_option linter.unusedVariables false

theorem PsF.rev {W : World} {x : FV} {M : List FV} {L : List (Rat × Rat)} {k : Nat} (h : PsF W (x :: M) L k) : PsF W (x :: M.reverse) (revL L) k := by
  have hl := h.len
  match L, hl with
  | p :: L, hl =>
    have hl2 : M.length = L.length := by simpa using hl
    refine h.part (by simp [revL, hl2]) (fun i hi => ?_)
    have hi2 : i < M.length + 1 := by simpa using hi
    cases i with
    | zero => exact ⟨0, by simp, rfl, rfl⟩
    | succ i =>
      have h1 : i < M.length := by omega
      refine ⟨M.length - 1 - i + 1, by simp; omega, ?_, ?_⟩
      · rw [fv_get (by simpa using hi), fv_get (by simp; omega)]
        simp only [List.getElem_cons_succ, List.getElem_reverse]
      · rw [pg_get (by simp [revL]; omega), pg_get (by simp; omega)]
        simp only [revL, List.getElem_cons_succ, List.getElem_reverse, ← hl2]
theorem rReverseC {w w0 : World} {a : Option Addr} {n c : Nat} {V : List AV} {L : List (Rat × Rat)} {k : Nat} [hs : Sl w (.slice a n c) V.length (rowA V) w0] [hp : PsA w V L k] (b : k ≤ 18000) (hV : V.length ≤ 1000) (hR : RingOK L) :
    Calls Tryz.prog 35 #[.slice a n c] w (PsAEr w (revL L) (k + 2)) := by
  have hpos := hR.pos
  have HR := Lib.hid hR
  clear hR
  go_enter Tryz.func35, Tryz.ntmps35
  go_wp2_with fail
  with_reducible refine Calls.cPsFEr (ringOfOk (by omega) (by omega) HR.out) ?_
  intro w1 _ a1 c1 V1 _ ip1
  have hV1 : V1.length ≤ 1000 := by rw [ip1.len, ← PsA.len (W := w) (V := V)]; exact hV
  have hV2 : 0 < V1.length := by rw [ip1.len]; exact hpos
  go_wp2_with fail
  refine (cloneC (V := V1) (by omega) (by omega)).mono ?_
  rintro e w2 ⟨g, c2, Z, rfl, hc, hg, hb, hz, hbl⟩
  have k2 : Kp1 w1 w2 := ⟨hbl⟩
  have gw : Ge w g := ⟨Nat.le_trans (inferInstance : Kp w w1).out.size hg⟩
  obtain ⟨x, M, rfl⟩ : ∃ x M, V1 = x :: M := by
    match V1, hV2 with
    | x :: M, _ => exact ⟨x, M, rfl⟩
  have hM : M.length ≤ 1000 := by simp at hV1; omega
  have hc1 : M.length + 1 ≤ c2 := by simpa using hc.1
  have hc2 : c2 ≤ maxLen := hc.2
  simp only [List.length_cons]
  clear hV1 hV2 hc
  have hM1 : 1 ≤ M.length := by
    have h1 := ip1.len
    have h2 := HR.out.edge 0 hpos
    have h3 : L.length = M.length + 1 := by rw [← h1]; simp
    rcases Nat.eq_zero_or_pos M.length with h | h
    · rw [h3, h] at h2; exact absurd rfl h2
    · exact h
  have hc3 : ¬ (c2 = 1) := by omega
  have hc4 : (1 : Int) ≤ M.length + 1 := by omega
  have e1 : M.length + 1 - 1 = M.length := by omega
  go_wp2_with fail
  refine (sliceRevS (x := x) (Z := Z) (by omega)).mono ?_
  rintro e w3 ⟨rfl, hb3, hgb⟩
  have ap : Apn w2 w3 := ⟨⟨_, hgb, fun k hk => by cases hk; exact ⟨_, _, hb.out, inferInstance, fun u hu => by
    rcases List.mem_append.1 hu with h | h
    · exact rowF_nd _ u h
    · exact hz u h⟩⟩⟩
  have ap1 : Ap1 w2 w3 g w2 := ⟨⟨_, hgb, fun k hk => by cases hk; exact ⟨Nat.le_refl _, hb.lt⟩⟩⟩
  have ip2 : PsF w2 (x :: M) L (k + 2) := inferInstance
  have ip3 : PsF w3 (x :: M) L (k + 2) := inferInstance
  have ip4 := ip3.rev
  have sl : Sl w3 (.slice (some ⟨g, 0, none⟩) (M.length + 1) c2) (x :: M.reverse).length (rowF (x :: M.reverse)) w3 := ⟨.inr ⟨g, c2, by simp, by simpa using hc1, fun j u hu => by
    rw [cell_bx, List.getElem?_append_left (List.getElem?_eq_some_iff.1 hu).1]; exact hu⟩, fun g' e => by cases e; exact hb3.lt, fun g' e => by cases e; exact hb3.lt⟩
  go_wp2_with fail
  with_reducible refine Calls.cPsARet (ringApiC (V := x :: M.reverse) (by omega) (by simp; omega)) ?_
  intro w4 _ a4 c4 V4 _ ip5
  go_wp2_with fail
  go_ret2
  exact PsAEr.fin (V := V4) rfl (by omega)
end Go.Proofs.YtdlnoeegboapkaaGreatDoor

/- Rotations of valid rings: plain facts. -/
namespace Go.Proofs.YtdlnoeegboapkaaGreatDoor
open Go.RowKit
set_option linter.unusedVariables false

theorem dsc_list (L : List (Rat × Rat)) : ∀ k, k ≤ L.length → ∃ M : List (Rat × Rat), M.Nodup ∧ M.length = dsc L k ∧ ∀ x, x ∈ M ↔ x ∈ L.take k := by
  intro k
  induction k with
  | zero => exact fun _ => ⟨[], List.nodup_nil, rfl, fun x => by simp⟩
  | succ k ih =>
    intro hk
    obtain ⟨M, h1, h2, h3⟩ := ih (by omega)
    by_cases hm : pg L k ∈ L.take k
    · exact ⟨M, h1, by rw [dsc, if_pos hm, h2, Nat.add_zero], fun x => by
        rw [h3, take_succ_mem (by omega)]
        constructor
        · exact .inl
        · rintro (h | rfl)
          · exact h
          · exact hm⟩
    · refine ⟨M ++ [pg L k], ?_, by rw [dsc, if_neg hm, List.length_append, h2]; rfl, fun x => ?_⟩
      · rw [List.nodup_append]
        exact ⟨h1, by simp, fun a ha b hb => by
          rw [List.mem_singleton] at hb
          subst hb
          intro e
          subst e
          exact hm ((h3 _).1 ha)⟩
      · rw [List.mem_append, h3, List.mem_singleton, take_succ_mem (by omega)]
theorem three_of {L : List (Rat × Rat)} (h : 3 ≤ dsc L L.length) : ∃ a b c, (a ∈ L ∧ b ∈ L ∧ c ∈ L) ∧ a ≠ b ∧ a ≠ c ∧ b ≠ c := by
  obtain ⟨M, h1, h2, h3⟩ := dsc_list L L.length (Nat.le_refl _)
  rw [List.take_length] at h3
  match M, h1, h2, h3 with
  | [], _, h2, _ => simp at h2; omega
  | [_], _, h2, _ => simp at h2; omega
  | [_, _], _, h2, _ => simp at h2; omega
  | a :: b :: c :: M, h1, _, h3 =>
    simp only [List.nodup_cons, List.mem_cons, not_or] at h1
    exact ⟨a, b, c, ⟨(h3 a).1 (by simp), (h3 b).1 (by simp), (h3 c).1 (by simp)⟩, h1.1.1, h1.1.2.1, h1.2.1.1⟩
theorem of_three {L : List (Rat × Rat)} {a b c : Rat × Rat} (hm : a ∈ L ∧ b ∈ L ∧ c ∈ L) (h1 : a ≠ b) (h2 : a ≠ c) (h3 : b ≠ c) : 3 ≤ dsc L L.length := by
  obtain ⟨M, _, e, h4⟩ := dsc_list L L.length (Nat.le_refl _)
  rw [List.take_length] at h4
  rw [← e]
  have ha := (h4 a).2 hm.1
  have hb := (h4 b).2 hm.2.1
  have hc := (h4 c).2 hm.2.2
  match M, ha, hb, hc with
  | [], ha, _, _ => simp at ha
  | [x], ha, hb, _ =>
    rw [List.mem_singleton] at ha hb
    exact absurd (ha.trans hb.symm) h1
  | [x, y], ha, hb, hc =>
    simp only [List.mem_cons, List.not_mem_nil, or_false] at ha hb hc
    rcases ha with rfl | rfl <;> rcases hb with rfl | rfl <;> rcases hc with rfl | rfl <;> simp_all
  | _ :: _ :: _ :: _, _, _, _ => simp
theorem rot_mem {L : List (Rat × Rat)} {i : Nat} {x : Rat × Rat} : x ∈ rot L i ↔ x ∈ L := by
  rw [rot, List.mem_append, or_comm, ← List.mem_append, List.take_append_drop]
theorem edge_pc {L : List (Rat × Rat)} (h : RingOK L) (m : Nat) : pc L m ≠ pc L (m + 1) := by
  have h0 := h.pos
  have hm : m % L.length < L.length := Nat.mod_lt _ h0
  have := h.edge _ hm
  rw [pc, pc]
  rw [show (m + 1) % L.length = (m % L.length + 1) % L.length by rw [Nat.mod_add_mod]]
  exact this
theorem RingOK.rot {L : List (Rat × Rat)} (h : RingOK L) {i : Nat} (hi : i < L.length) : RingOK (rot L i) := by
  obtain ⟨a, b, c, ⟨m1, m2, m3⟩, h1, h2, h3⟩ := three_of h.three
  refine ⟨of_three ⟨rot_mem.2 m1, rot_mem.2 m2, rot_mem.2 m3⟩ h1 h2 h3, fun j hj => ?_⟩
  have e1 : pg (Go.Proofs.YtdlnoeegboapkaaGreatDoor.rot L i) j = pc (Go.Proofs.YtdlnoeegboapkaaGreatDoor.rot L i) j := (pc_lt hj).symm
  have e2 : pg (Go.Proofs.YtdlnoeegboapkaaGreatDoor.rot L i) ((j + 1) % (Go.Proofs.YtdlnoeegboapkaaGreatDoor.rot L i).length) = pc (Go.Proofs.YtdlnoeegboapkaaGreatDoor.rot L i) (j + 1) := rfl
  rw [e1, e2, rot_pc hi, rot_pc hi, show j + 1 + i = j + i + 1 by omega]
  exact edge_pc h _
theorem revL_mem {L : List (Rat × Rat)} {x : Rat × Rat} : x ∈ revL L ↔ x ∈ L := by
  cases L with
  | nil => simp [revL]
  | cons p M => simp [revL]
theorem RingOK.rev {L : List (Rat × Rat)} (h : RingOK L) : RingOK (revL L) := by
  obtain ⟨a, b, c, ⟨m1, m2, m3⟩, h1, h2, h3⟩ := three_of h.three
  have h0 := h.pos
  refine ⟨of_three ⟨revL_mem.2 m1, revL_mem.2 m2, revL_mem.2 m3⟩ h1 h2 h3, fun j hj => ?_⟩
  rw [revL_len] at hj
  have e1 : pg (revL L) j = pc (revL L) j := (pc_lt (by rw [revL_len]; exact hj)).symm
  have e2 : pg (revL L) ((j + 1) % (revL L).length) = pc (revL L) (j + 1) := rfl
  rw [e1, e2, revL_pc (by omega) h0, revL_pc (by omega) h0]
  have := edge_pc h (L.length - (j + 1))
  rw [show L.length - (j + 1) + 1 = L.length - j by omega] at this
  exact this.symm
theorem RingOK.canon {L : List (Rat × Rat)} (h : RingOK L) : RingOK (canonL L) := by
  rcases bst_rot L L.length (Nat.le_refl _) with e | ⟨k, hk, e⟩
  · rw [canonL, e]; exact h
  · rw [canonL, e]; exact h.rot hk
end Go.Proofs.YtdlnoeegboapkaaGreatDoor
