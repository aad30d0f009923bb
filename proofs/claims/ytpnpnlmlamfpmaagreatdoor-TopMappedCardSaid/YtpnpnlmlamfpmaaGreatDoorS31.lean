import Derived.Test.YtpnpnlmlamfpmaaGreatDoorS30
namespace Go.Proofs.YtpnpnlmlamfpmaaGreatDoor
open Go.RowKit
set_option linter.unusedVariables false
set_option maxHeartbeats 40000000
set_option maxRecDepth 100000
set_option synthInstance.maxHeartbeats 1000000
set_option synthInstance.maxSize 100000
theorem Rn.cap {W w0 : World} {a : Option Addr} {e : TypeId} {sz n c n' base : Nat} {xs : List Value} (h : Rn W (.slice a n' c) e sz n xs base w0) : n ≤ c ∧ c ≤ maxLen := by
 rcases h.rw'.out.2 with ⟨e1, e2⟩ | ⟨g, cap, cur, e1, _, _, h3, h4, _⟩
 ·subst e2; exact ⟨Nat.zero_le _, by injection e1 with _ _ e3; rw [e3]; exact Nat.zero_le _⟩
 ·injection e1 with _ _ e3; subst e3; exact ⟨h3, h4⟩
def Pc (w : World) (m : Nat) (e : Ending) (w' : World) : Prop := ∃ (a : Option Addr) (c : Nat), e = .returned (.slice a m c) ∧ Below w.heap.size w w'
variable {W w w0 : World} {c k m n sz : Nat}
theorem Ni {P : Program} {f : FuncId} {args : Array Value} {K : Ending → World → Prop} (h : Calls P f args w (Pc w m))
  (hK : ∀ w' [Kp1 w w'] (a : Option Addr) (c : Nat), K (.returned (.slice a m c)) w') : Calls P f args w K := by
 refine h.mono ?_
 rintro e w' ⟨a, c, rfl, hb⟩
 exact @hK w' ⟨hb⟩ a c
variable {L : List (Rat × Rat)} {V : List AV}
theorem PsQ.ins {p : Nat} {e : AV} {x y : Rat} (h : PsQ W V L k) (hp : p ≤ V.length) (hx : CQ W (.agg #[.bool e.gx, .slice e.ax e.lx e.cx, .slice e.aax e.llx e.ccx]) x k) (hy : CQ W (.agg #[.bool e.gy, .slice e.ay e.ly e.cy, .slice e.aay e.lly e.ccy]) y k) :
  PsQ W (V.take p ++ e :: V.drop p) (Ch L p (x, y)) k := by
 have hl := h.len
 have hlen : (V.take p ++ e :: V.drop p).length = V.length + 1 := by simp; omega
 have key : ∀ i, i < V.length + 1 → (i < p ∧ av (V.take p ++ e :: V.drop p) i = av V i ∧ pg (Ch L p (x, y)) i = pg L i) ∨ (i = p ∧ av (V.take p ++ e :: V.drop p) i = e ∧ pg (Ch L p (x, y)) i = (x, y)) ∨ (p < i ∧ av (V.take p ++ e :: V.drop p) i = av V (i - 1) ∧ pg (Ch L p (x, y)) i = pg L (i - 1)) := by
  intro i hi
  have h2 : i < (Ch L p (x, y)).length := by rw [Rm (by omega)]; omega
  rcases Nat.lt_trichotomy i p with h1 | h1 | h1
  ·refine .inl ⟨h1, ?_, ?_⟩
   ·rw [Dy (by omega), Dy (by omega), List.getElem_append_left (by simp; omega), List.getElem_take]
   ·rw [Aw h2, Aw (by omega)]; simp only [Ch]; rw [List.getElem_append_left (by simp; omega), List.getElem_take]
  ·subst h1
   refine .inr (.inl ⟨rfl, ?_, ?_⟩)
   ·rw [Dy (by omega), List.getElem_append_right (by simp; omega)]; simp only [List.length_take, Nat.min_eq_left hp, Nat.sub_self, List.getElem_cons_zero]
   ·rw [Aw h2]; simp only [Ch]; rw [List.getElem_append_right (by simp; omega)]; simp only [List.length_take, Nat.min_eq_left (show i ≤ L.length by omega), Nat.sub_self, List.getElem_cons_zero]
  ·obtain ⟨j, rfl⟩ : ∃ j, i = p + 1 + j := ⟨i - (p + 1), by omega⟩
   refine .inr (.inr ⟨h1, ?_, ?_⟩)
   ·rw [Dy (by omega), Dy (by omega), List.getElem_append_right (by simp; omega)]
    simp only [List.length_take, Nat.min_eq_left hp, show p + 1 + j - p = j + 1 by omega, List.getElem_cons_succ, List.getElem_drop, show p + 1 + j - 1 = p + j by omega]
   ·rw [Aw h2, Aw (by omega)]; simp only [Ch]; rw [List.getElem_append_right (by simp; omega)]
    simp only [List.length_take, Nat.min_eq_left (show p ≤ L.length by omega), show p + 1 + j - p = j + 1 by omega, List.getElem_cons_succ, List.getElem_drop, show p + 1 + j - 1 = p + j by omega]
 refine ⟨by rw [hlen, Rm (by omega)]; omega, fun i hi => ?_, fun i hi => ?_⟩
 all_goals
  rw [hlen] at hi
  rcases key i hi with ⟨h1, h2, h3⟩ | ⟨h1, h2, h3⟩ | ⟨h1, h2, h3⟩
  ·rw [h2, h3]; first | exact h.x i (by omega) | exact h.y i (by omega)
  ·rw [h2, h3]; first | exact hx | exact hy
  ·rw [h2, h3]; first | exact h.x (i - 1) (by omega) | exact h.y (i - 1) (by omega)
theorem Qfs (U : List AV) (p : Nat) : ∀ (j : Nat) (u : Value), (Af (U.drop p))[j]? = some u → (Af U)[p * 6 + j]? = some u := by
 induction U generalizing p with
 | nil => intro j u h; simp [Af] at h
 | cons x U ih =>
  intro j u h
  cases p with
  | zero => simpa using h
  | succ p =>
   have h2 := ih p j u h
   have e : Af (x :: U) = x.l ++ Af U := by simp [Af]
   rw [e, List.getElem?_append_right (by rw [AV.len]; omega), AV.len]
   rw [show (p + 1) * 6 + j - 6 = p * 6 + j by omega]
   exact h2
theorem Ws (U : List AV) (p : Nat) : ∀ (j : Nat) (u : Value), (Af (U.take p))[j]? = some u → (Af U)[j]? = some u := by
 intro j u h
 have e : Af U = Af (U.take p) ++ Af (U.drop p) := by
  unfold Af; rw [← List.flatMap_append, List.take_append_drop]
 have hl : j < (Af (U.take p)).length := by
  rcases Nat.lt_or_ge j (Af (U.take p)).length with h1 | h1
  ·exact h1
  ·rw [List.getElem?_eq_none h1] at h; cases h
 rw [e, List.getElem?_append_left hl]; exact h
theorem Lp (x : AV) (U : List AV) : Af (x :: U) = x.l ++ Af U := by simp [Af]
theorem Pr (U V : List AV) : Af (U ++ V) = Af U ++ Af V := by simp [Af]
theorem Ib (U : List AV) : (Af U).length = U.length * 6 := Qgw AV.len U
variable {a : Option Addr} {e : TypeId} {xs : List Value}
theorem Rn.cases {n' base : Nat} (h : Rn W (.slice a n' c) e sz n xs base w0) : (a = none ∧ n = 0 ∧ c = 0) ∨ ∃ g, a = some ⟨g, 0, none⟩ ∧ At W g xs w0 := by
 rcases h.rw'.out.2 with ⟨e1, e2⟩ | ⟨g, cap, cur, e1, _⟩
 ·injection e1 with e3 _ e5; exact .inl ⟨e3, e2, e5⟩
 ·injection e1 with e3 _ _
  subst e3; exact .inr ⟨g, rfl, h.at⟩
theorem Rn.low {v : Value} {base b' : Nat} (h : Rn W v e sz n xs base w0) (hb : b' ≤ base) : Rn W v e sz n xs b' w0 :=
 ⟨⟨⟨h.rw'.out.1, by
  rcases h.rw'.out.2 with hn | ⟨g, cap, cur, e1, h2, rest⟩
  ·exact .inl hn
  ·exact .inr ⟨g, cap, cur, e1, Nat.le_trans hb h2, rest⟩⟩, h.rw'.lt, h.rw'.ltW, Nat.le_trans hb h.rw'.hb⟩, h.nd⟩
theorem Pc.fin {w' : World} {m' : Nat} [k : Kp w w'] (e : m' = m) : Pc w m (.returned (.slice a m' c)) w' := by subst e; exact ⟨a, c, rfl, k.out⟩
theorem J4 {g1x g1y g2x g2y : Bool} {a1x aa1x a1y aa1y a2x aa2x a2y aa2y : Option Addr} {l1x c1x ll1x cc1x l1y c1y ll1y cc1y l2x c2x ll2x cc2x l2y c2y ll2y cc2y k1x k1y k2x k2y : Nat} {x1 y1 x2 y2 : Rat} [h1x : CQ w (.agg #[.bool g1x, .slice a1x l1x c1x, .slice aa1x ll1x cc1x]) x1 k1x] [h1y : CQ w (.agg #[.bool g1y, .slice a1y l1y c1y, .slice aa1y ll1y cc1y]) y1 k1y] [h2x : CQ w (.agg #[.bool g2x, .slice a2x l2x c2x, .slice aa2x ll2x cc2x]) x2 k2x] [h2y : CQ w (.agg #[.bool g2y, .slice a2y l2y c2y, .slice aa2y ll2y cc2y]) y2 k2y] (b : k1x ≤ 9000 ∧ k1y ≤ 9000 ∧ k2x ≤ 9000 ∧ k2y ≤ 9000) {v : Int} (hv : Hid (Bl (x1, y1) (x2, y2) = v)) :
  Calls Tryz.prog 101 #[.agg #[.bool g1x, .slice a1x l1x c1x, .slice aa1x ll1x cc1x, .bool g1y, .slice a1y l1y c1y, .slice aa1y ll1y cc1y], .agg #[.bool g2x, .slice a2x l2x c2x, .slice aa2x ll2x cc2x, .bool g2y, .slice a2y l2y c2y, .slice aa2y ll2y cc2y]] w (fun e w' => e = .returned (.int .i64 v) ∧ Below w.heap.size w w') := by
 have h := hv.out
 subst h; exact Qcq b
theorem Ql [hs : Sl w (.slice a n c) V.length (Af V) w0] [hp : PsQ w V L k] (b : k ≤ 9000) (hV : V.length ≤ 1000) :
  Calls Tryz.prog 62 #[.slice a n c] w (Pc w (dsc L L.length)) := by
 obtain rfl := hs.len; have hlen := Lib.hid hp.len; go_enter Tryz.func62, Tryz.ntmps62; go_wp2_with fail
 go_loopw [9, 3] (fun i o wr => ∃ (q : Nat) (U : List AV) (N : List (Rat × Rat)), i = .int .i64 (q : Int) ∧ q ≤ V.length ∧ Rn wr o 40 6 U.length (Af U) w.heap.size wr ∧ PsQ wr U N k ∧ Hid (SortOf L q N) ∧ Kp w wr) (fun i _ _ => V.length - (intOf i).toNat)
 case atStart => exact ⟨0, [], [], rfl, by omega, Rn.nil (Nat.le_refl _), PsQ.nil, Lib.hid (SortOf.nil L), ii⟩
 case round =>
  obtain ⟨q, U, N, rfl, hq, i1, i2, hN, i3⟩ := hrel; have kw := Kp1.mk i3.out
  have hNl : U.length ≤ 1000 := by
   have h1 := hN.out.len; have h2 := Q0 L q; have h3 := i2.len; omega
  obtain ⟨a3, c3, rfl⟩ := i1.slice; obtain ⟨hc1, hc2⟩ := i1.cap; unfold maxLen at hc2
  by_cases hlt : q < V.length
  ·obtain ⟨g, rfl, hA⟩ := hs.form (by omega); have hlt' : (q : Int) < V.length := (by omega); have lq : LtN q V.length := ⟨hlt⟩
   have ew : IntKind.i64.wrap ((q : Int) + 1) = (q : Int) + 1 := Ap (by omega) (by omega)
   have HUl := Lib.hid i2.len; go_wp2_with fail
   go_loopw [6] (fun i wx => ∃ p : Nat, i = .int .i64 (p : Int) ∧ p ≤ U.length ∧ Hid (∀ j, j < p → Bl (pg N j) (pg L q) < 0) ∧ Bx wx wr.heap.size 40 (av V q).l ∧ Kp wr wx) (fun i _ => U.length - (intOf i).toNat)
   case atStart => exact ⟨0, rfl, by omega, Lib.hid (fun j hj => by omega), Bx.re rfl, ii⟩
   case round =>
    obtain ⟨p, rfl, hp, hpl, j1, j2⟩ := hrel; have kx := Kp1.mk j2.out; simp only [AV.l] at j1
    by_cases hpt : p < U.length
    ·have hpt' : (p : Int) < U.length := by omega
     have lp : LtN p U.length := ⟨hpt⟩
     have ep : IntKind.i64.wrap ((p : Int) + 1) = (p : Int) + 1 := Ap (by omega) (by omega)
     obtain ⟨g2, rfl, hA2⟩ := (Sl.ofRn (h := i1)).form (by omega); obtain ⟨v, hv⟩ : ∃ v, Bl ((pg N p).1, (pg N p).2) ((pg L q).1, (pg L q).2) = v := ⟨_, rfl⟩; have HC := Lib.hid hv; clear hv
     by_cases hneg : v < 0
     ·go_wp2_with fail; refine rgn [] [] fun hH => ?_; refine tk 0 hH ?_; refine tk 1 hH ?_; refine tk 2 hH ?_; refine tk 3 hH ?_; refine tk 4 hH ?_; refine tk 5 hH ?_; refine tk 6 hH ?_; refine tk 7 hH ?_; refine tk 8 hH ?_; refine tk 9 hH (st 10 fun K hK => ?_); go_simp; refine Aa (J4 (by omega) HC) ?_; intros; refine hd hK fun hH => ?_; refine tk 11 hH ?_; refine tk 12 hH (dn ?_); clear hH; go_wp2
      go_roundw
      case rel => exact ⟨p + 1, by go_num, by omega, Lib.hid (fun j hj => by
        rcases Nat.lt_or_ge j p with h | h
        ·exact hpl.out j h
        ·have : j = p := by omega
         subst this; have h2 : Bl (pg N j) (pg L q) = v := HC.out; omega), ii, ii⟩
      case measure => simp [intOf]; omega
     ·have hge : ¬ (v < 0) := hneg
      have hge2 : 0 ≤ v := (by omega); have hne : ¬ ((p : Int) = (U.length : Int)) := (by omega)
      have hne2 : ((p : Int) == (U.length : Int)) = false := beq_false_of_ne hne
      have hne3 : ¬ (p = U.length) := (by omega); have hpc : (p : Int) ≤ c3 := (by omega); have hUc : (U.length : Int) ≤ c3 := (by omega); have hcp : ¬ (c3 = p) := (by omega)
      by_cases hz : v = 0
      ·have hz2 : (v == 0) = true := by simpa using hz
       have hz3 : (v != 0) = false := by simp [hz]
       go_wp2_with fail; refine rgn [] [] fun hH => ?_; refine tk 0 hH ?_; refine tk 1 hH ?_; refine tk 2 hH ?_; refine tk 3 hH ?_; refine tk 4 hH ?_; refine tk 5 hH ?_; refine tk 6 hH ?_; refine tk 7 hH ?_; refine tk 8 hH ?_; refine tk 9 hH (st 10 fun K hK => ?_); go_simp; refine Aa (J4 (by omega) HC) ?_; intros; refine hd hK fun hH => ?_; refine tk 11 hH ?_; refine tk 12 hH (dn ?_); clear hH; go_wp2_with fail; refine rgn [] [] fun hH => ?_; refine tk 0 hH ?_; refine tk 1 hH ?_; refine tk 2 hH ?_; refine tk 3 hH ?_; refine tk 4 hH ?_; refine tk 5 hH ?_; refine tk 6 hH ?_; refine tk 7 hH ?_; refine tk 8 hH ?_; refine tk 9 hH (st 10 fun K hK => ?_); go_simp; refine Aa (J4 (by omega) HC) ?_; intros; refine hd hK fun hH => ?_; refine tk 11 hH ?_; refine tk 12 hH (dn ?_); clear hH; go_wp2
       go_roundw
       case rel => exact ⟨q + 1, U, N, by go_num, by omega, Rn.cast2 ii rfl rfl, ii, Lib.hid (SortOf.old hN.out (by rw [← hlen.out]; omega) (i := p) (by have := HUl.out; omega) (by have h2 : Bl (pg N p) (pg L q) = v := HC.out; omega) (by have h2 : Bl (pg N p) (pg L q) = v := HC.out; omega)), ii⟩
       case measure => simp [intOf]; omega
      ·have hz2 : (v == 0) = false := by simpa using hz
       have hz3 : (v != 0) = true := by simp [hz]
       go_wp2_with fail; refine rgn [] [] fun hH => ?_; refine tk 0 hH ?_; refine tk 1 hH ?_; refine tk 2 hH ?_; refine tk 3 hH ?_; refine tk 4 hH ?_; refine tk 5 hH ?_; refine tk 6 hH ?_; refine tk 7 hH ?_; refine tk 8 hH ?_; refine tk 9 hH (st 10 fun K hK => ?_); go_simp; refine Aa (J4 (by omega) HC) ?_; intros; refine hd hK fun hH => ?_; refine tk 11 hH ?_; refine tk 12 hH (dn ?_); clear hH; go_wp2_with fail; refine rgn [] [] fun hH => ?_; refine tk 0 hH ?_; refine tk 1 hH ?_; refine tk 2 hH ?_; refine tk 3 hH ?_; refine tk 4 hH ?_; refine tk 5 hH ?_; refine tk 6 hH ?_; refine tk 7 hH ?_; refine tk 8 hH ?_; refine tk 9 hH (st 10 fun K hK => ?_); go_simp; refine Aa (J4 (by omega) HC) ?_; intros; refine hd hK fun hH => ?_; refine tk 11 hH ?_; refine tk 12 hH (dn ?_); clear hH; go_wp2_with fail; refine rgn [] [] fun hH => ?_; refine tk 0 hH ?_; refine tk 1 hH ?_; refine tk 2 hH ?_; refine tk 3 hH ?_; refine tk 4 hH ?_; refine tk 6 hH ?_; refine tk 7 hH ?_; refine tk 8 hH (st 5 fun K hK => ?_); go_simp; refine hd hK fun hH => st 9 fun K hK => ?_; rw [if_pos (by rfl)]
       refine Jn (.tmp 46) (.tmp 49) 77 rfl Tryz.underlying77 Fe rfl (by decide) (by decide) ii (n := 1) (xs := (av V q).l) rfl (.inr ⟨_, rfl, fun j u hu => by rw [Fr, Nat.zero_add, B8]; exact hu⟩) rfl (AV.nd _) rfl (l := Af (U.drop p)) (fun j u hu => by rw [Fr]; exact (ii : At _ g2 (Af U) _).out _ _ (Qfs U p j u hu)) (by rw [Ib, List.length_drop]) (F4 _) (by omega) (by omega) ?_
       intro g4 c4 W4 k4 i4
       have at4 := i4.at
       refine hd hK fun hH => st 10 fun K hK => ?_; rw [if_pos (by rfl)]
       refine Jn (.tmp 44) (.tmp 50) 77 rfl Tryz.underlying77 Fe rfl (by decide) (by decide) ii (n := p) (xs := Af (U.take p)) rfl (.inr ⟨_, rfl, fun j u hu => by rw [Fr, Nat.zero_add]; exact (ii : At _ g2 (Af U) _).out _ _ (Ws U p j u hu)⟩) (by rw [Ib, List.length_take, Nat.min_eq_left (by omega)]) (F4 _) rfl (l := (av V q).l ++ Af (U.drop p)) (fun j u hu => by rw [Fr, Nat.zero_add]; exact at4.out _ _ hu) (by rw [List.length_append, AV.len, Ib, List.length_drop]; omega) (by rw [← Lp]; exact F4 _) (by omega) (by omega) ?_
       intro g5 c5 W5 k5 i5; refine hd hK fun hH => ?_; refine tk 11 hH (dn ?_); clear hH; go_wp2
       go_roundw
       case rel => exact ⟨q + 1, U.take p ++ av V q :: U.drop p, Ch N p (pg L q), by go_num, by omega, Rn.cast2 (Rn.low i5 Ge.out) (by first | (simp; done) | (simp; omega)) (by rw [Pr, Lp]), PsQ.ins ii (by omega) ii ii, Lib.hid (SortOf.new hN.out (by rw [← hlen.out]; omega) ⟨by have := HUl.out; omega, hpl.out⟩ (.inr (by have h2 : Bl (pg N p) (pg L q) = v := HC.out; omega))), ii⟩
       case measure => simp [intOf]; omega
    ·obtain rfl : p = U.length := by omega
     rcases i1.cases with ⟨rfl, h0, rfl⟩ | ⟨g2, rfl, hA2⟩
     ·obtain rfl : U = [] := List.eq_nil_of_length_eq_zero h0; clear h0; go_wp2_with fail; refine rgn [] [] fun hH => ?_; refine tk 0 hH ?_; refine tk 1 hH ?_; refine tk 2 hH ?_; refine tk 3 hH ?_; refine tk 4 hH ?_; refine tkU 5 hH ?_; refine tkU 6 hH ?_; refine tkU 7 hH ?_; refine tkU 8 hH ?_; refine tkU 9 hH ?_; refine tkU 10 hH ?_; refine tkU 11 hH ?_; refine tk 12 hH (dn ?_); clear hH; go_wp2_with fail; refine rgn [] [] fun hH => ?_; refine tk 0 hH ?_; refine tk 1 hH ?_; refine tk 2 hH ?_; refine tk 3 hH ?_; refine tk 4 hH ?_; refine tkU 5 hH ?_; refine tkU 6 hH ?_; refine tkU 7 hH ?_; refine tkU 8 hH ?_; refine tkU 9 hH ?_; refine tkU 10 hH ?_; refine tkU 11 hH ?_; refine tk 12 hH (dn ?_); clear hH; go_wp2_with fail; refine rgn [] [] fun hH => ?_; refine tk 0 hH ?_; refine tk 1 hH ?_; refine tk 2 hH ?_; refine tk 3 hH ?_; refine tk 4 hH ?_; refine tk 6 hH ?_; refine tk 7 hH ?_; refine tk 8 hH (st 5 fun K hK => ?_); go_simp; refine hd hK fun hH => st 9 fun K hK => ?_; rw [if_pos (by rfl)]
      refine Ro (.tmp 46) (.tmp 49) 77 rfl Tryz.underlying77 Fe rfl (Nat.le_refl _) rfl (.inl ⟨_, rfl⟩) ?_
      refine hd hK fun hH => st 10 fun K hK => ?_; rw [if_pos (by rfl)]
      refine Jn (.tmp 44) (.tmp 50) 77 rfl Tryz.underlying77 Fe rfl (by decide) (by decide) ii (xs := Af ([] : List AV)) rfl (.inl ⟨rfl, rfl⟩) (Ib _) (F4 _) rfl (l := (av V q).l) (fun j u hu => by rw [Fr, Nat.zero_add, B8]; exact hu) rfl (AV.nd _) (by decide) (by omega) ?_
      intro g5 c5 W5 k5 i5; refine hd hK fun hH => ?_; refine tk 11 hH (dn ?_); clear hH; go_wp2
      go_roundw
      case rel => exact ⟨q + 1,  av V q :: [], Ch N 0 (pg L q), by go_num, by omega, Rn.cast2 (Rn.low i5 Ge.out) (by first | (simp; done) | (simp; omega)) (by simp [Af]), PsQ.ins (V := []) ii (Nat.le_refl _) ii ii, Lib.hid (SortOf.new hN.out (by rw [← hlen.out]; omega) ⟨by have := HUl.out; omega, hpl.out⟩ (.inl HUl.out)), ii⟩
      case measure => simp [intOf]; omega
     ·by_cases hcU : c3 = U.length
      ·subst hcU; go_wp2_with fail; refine rgn [] [] fun hH => ?_; refine tk 0 hH ?_; refine tk 1 hH ?_; refine tk 2 hH ?_; refine tk 3 hH ?_; refine tk 4 hH ?_; refine tkU 5 hH ?_; refine tkU 6 hH ?_; refine tkU 7 hH ?_; refine tkU 8 hH ?_; refine tkU 9 hH ?_; refine tkU 10 hH ?_; refine tkU 11 hH ?_; refine tk 12 hH (dn ?_); clear hH; go_wp2_with fail; refine rgn [] [] fun hH => ?_; refine tk 0 hH ?_; refine tk 1 hH ?_; refine tk 2 hH ?_; refine tk 3 hH ?_; refine tk 4 hH ?_; refine tkU 5 hH ?_; refine tkU 6 hH ?_; refine tkU 7 hH ?_; refine tkU 8 hH ?_; refine tkU 9 hH ?_; refine tkU 10 hH ?_; refine tkU 11 hH ?_; refine tk 12 hH (dn ?_); clear hH; go_wp2_with fail; refine rgn [] [] fun hH => ?_; refine tk 0 hH ?_; refine tk 1 hH ?_; refine tk 2 hH ?_; refine tk 3 hH ?_; refine tk 4 hH ?_; refine tk 6 hH ?_; refine tk 7 hH ?_; refine tk 8 hH (st 5 fun K hK => ?_); go_simp; refine hd hK fun hH => st 9 fun K hK => ?_; rw [if_pos (by rfl)]
       refine Ro (.tmp 46) (.tmp 49) 77 rfl Tryz.underlying77 Fe rfl (Nat.le_refl _) rfl (.inr ⟨_, _, rfl⟩) ?_
       refine hd hK fun hH => st 10 fun K hK => ?_; rw [if_pos (by rfl)]
       refine Jn (.tmp 44) (.tmp 50) 77 rfl Tryz.underlying77 Fe rfl (by decide) (by decide) ii (xs := Af U) rfl (.inr ⟨_, rfl, fun j u hu => by rw [Fr, Nat.zero_add]; exact (ii : At _ g2 (Af U) _).out _ _ hu⟩) (Ib _) (F4 _) rfl (l := (av V q).l) (fun j u hu => by rw [Fr, Nat.zero_add, B8]; exact hu) rfl (AV.nd _) (by decide) (by omega) ?_
       intro g5 c5 W5 k5 i5; refine hd hK fun hH => ?_; refine tk 11 hH (dn ?_); clear hH; go_wp2
       go_roundw
       case rel => exact ⟨q + 1, U.take U.length ++ av V q :: U.drop U.length, Ch N U.length (pg L q), by go_num, by omega, Rn.cast2 (Rn.low i5 Ge.out) (by first | (simp; done) | (simp; omega)) (by rw [List.take_length, List.drop_length, Pr, Lp]; simp [Af]), PsQ.ins ii (by omega) ii ii, Lib.hid (SortOf.new hN.out (by rw [← hlen.out]; omega) ⟨by have := HUl.out; omega, hpl.out⟩ (.inl HUl.out)), ii⟩
       case measure => simp [intOf]; omega
      ·go_wp2_with fail; refine rgn [] [] fun hH => ?_; refine tk 0 hH ?_; refine tk 1 hH ?_; refine tk 2 hH ?_; refine tk 3 hH ?_; refine tk 4 hH ?_; refine tkU 5 hH ?_; refine tkU 6 hH ?_; refine tkU 7 hH ?_; refine tkU 8 hH ?_; refine tkU 9 hH ?_; refine tkU 10 hH ?_; refine tkU 11 hH ?_; refine tk 12 hH (dn ?_); clear hH; go_wp2_with fail; refine rgn [] [] fun hH => ?_; refine tk 0 hH ?_; refine tk 1 hH ?_; refine tk 2 hH ?_; refine tk 3 hH ?_; refine tk 4 hH ?_; refine tkU 5 hH ?_; refine tkU 6 hH ?_; refine tkU 7 hH ?_; refine tkU 8 hH ?_; refine tkU 9 hH ?_; refine tkU 10 hH ?_; refine tkU 11 hH ?_; refine tk 12 hH (dn ?_); clear hH; go_wp2_with fail; refine rgn [] [] fun hH => ?_; refine tk 0 hH ?_; refine tk 1 hH ?_; refine tk 2 hH ?_; refine tk 3 hH ?_; refine tk 4 hH ?_; refine tk 6 hH ?_; refine tk 7 hH ?_; refine tk 8 hH (st 5 fun K hK => ?_); go_simp; refine hd hK fun hH => st 9 fun K hK => ?_; rw [if_pos (by rfl)]
       refine Ro (.tmp 46) (.tmp 49) 77 rfl Tryz.underlying77 Fe rfl (Nat.le_refl _) rfl (.inr ⟨_, _, rfl⟩) ?_
       refine hd hK fun hH => st 10 fun K hK => ?_; rw [if_pos (by rfl)]
       refine Jn (.tmp 44) (.tmp 50) 77 rfl Tryz.underlying77 Fe rfl (by decide) (by decide) ii (xs := Af U) rfl (.inr ⟨_, rfl, fun j u hu => by rw [Fr, Nat.zero_add]; exact (ii : At _ g2 (Af U) _).out _ _ hu⟩) (Ib _) (F4 _) rfl (l := (av V q).l) (fun j u hu => by rw [Fr, Nat.zero_add, B8]; exact hu) rfl (AV.nd _) (by decide) (by omega) ?_
       intro g5 c5 W5 k5 i5; refine hd hK fun hH => ?_; refine tk 11 hH (dn ?_); clear hH; go_wp2
       go_roundw
       case rel => exact ⟨q + 1, U.take U.length ++ av V q :: U.drop U.length, Ch N U.length (pg L q), by go_num, by omega, Rn.cast2 (Rn.low i5 Ge.out) (by first | (simp; done) | (simp; omega)) (by rw [List.take_length, List.drop_length, Pr, Lp]; simp [Af]), PsQ.ins ii (by omega) ii ii, Lib.hid (SortOf.new hN.out (by rw [← hlen.out]; omega) ⟨by have := HUl.out; omega, hpl.out⟩ (.inl HUl.out)), ii⟩
       case measure => simp [intOf]; omega
  ·obtain rfl : q = V.length := by omega
   go_wp2_with fail; go_ret
   exact Pc.fin (by have h1 := hN.out.len; have h2 := i2.len; rw [← hlen.out]; omega)
end Go.Proofs.YtpnpnlmlamfpmaaGreatDoor
