/-
  Texts of this claim, joined: Rg7, Rg9, Rg3.
-/
import Derived.Test.YtdlnoeegboapkaaGreatDoorCN
import Derived.RangeFuncNested
import Derived.RangeFuncBound
import Derived.RangeFuncCalls
import Derived.RangeFuncLeaves
import Derived.RangeFuncFrom
import Derived.RangeFuncWrites
import Derived.Shelf.Abstract
import Derived.Shelf.RegionOpen
import Derived.OwnWalkIn
import Derived.TacticsInMore
import Derived.LoopNIn
import Derived.LoopIn
/- Points in ascending order, each once: the reference's Sorted. printed by a small program (mkrg7.py). -/
namespace Go.Proofs.YtdlnoeegboapkaaGreatDoor
open Go.RowKit
set_option maxRecDepth 100000
set_option maxHeartbeats 40000000
set_option synthInstance.maxSize 100000
set_option synthInstance.maxHeartbeats 1000000
set_option linter.unusedVariables false

theorem Rn.cap {W w0 : World} {a : Option Addr} {e : TypeId} {sz n c n' base : Nat} {xs : List Value} (h : Rn W (.slice a n' c) e sz n xs base w0) : n ≤ c ∧ c ≤ maxLen := by
  rcases h.rw'.out.2 with ⟨e1, e2⟩ | ⟨g, cap, cur, e1, _, _, h3, h4, _⟩
  · subst e2; exact ⟨Nat.zero_le _, by injection e1 with _ _ e3; rw [e3]; exact Nat.zero_le _⟩
  · injection e1 with _ _ e3; subst e3; exact ⟨h3, h4⟩
/-- A list of a given length is returned. -/
def LenRet (w : World) (m : Nat) (e : Ending) (w' : World) : Prop := ∃ (a : Option Addr) (c : Nat), e = .returned (.slice a m c) ∧ Below w.heap.size w w'
theorem Calls.cLen {P : Program} {f : FuncId} {args : Array Value} {w : World} {m : Nat} {K : Ending → World → Prop} (h : Calls P f args w (LenRet w m))
    (hK : ∀ w' [Kp1 w w'] (a : Option Addr) (c : Nat), K (.returned (.slice a m c)) w') : Calls P f args w K := by
  refine h.mono ?_
  rintro e w' ⟨a, c, rfl, hb⟩
  exact @hK w' ⟨hb⟩ a c
/-- A list with one more element at the place p. -/
theorem PsQ.ins {W : World} {V : List AV} {L : List (Rat × Rat)} {k p : Nat} {e : AV} {x y : Rat} (h : PsQ W V L k) (hp : p ≤ V.length) (hx : CQ W (.agg #[.bool e.gx, .slice e.ax e.lx e.cx, .slice e.aax e.llx e.ccx]) x k) (hy : CQ W (.agg #[.bool e.gy, .slice e.ay e.ly e.cy, .slice e.aay e.lly e.ccy]) y k) :
    PsQ W (V.take p ++ e :: V.drop p) (insP L p (x, y)) k := by
  have hl := h.len
  have hlen : (V.take p ++ e :: V.drop p).length = V.length + 1 := by simp; omega
  have key : ∀ i, i < V.length + 1 → (i < p ∧ av (V.take p ++ e :: V.drop p) i = av V i ∧ pg (insP L p (x, y)) i = pg L i) ∨ (i = p ∧ av (V.take p ++ e :: V.drop p) i = e ∧ pg (insP L p (x, y)) i = (x, y)) ∨ (p < i ∧ av (V.take p ++ e :: V.drop p) i = av V (i - 1) ∧ pg (insP L p (x, y)) i = pg L (i - 1)) := by
    intro i hi
    have h2 : i < (insP L p (x, y)).length := by rw [insP_len (by omega)]; omega
    rcases Nat.lt_trichotomy i p with h1 | h1 | h1
    · refine .inl ⟨h1, ?_, ?_⟩
      · rw [av_get (by omega), av_get (by omega), List.getElem_append_left (by simp; omega), List.getElem_take]
      · rw [pg_get h2, pg_get (by omega)]
        simp only [insP]
        rw [List.getElem_append_left (by simp; omega), List.getElem_take]
    · subst h1
      refine .inr (.inl ⟨rfl, ?_, ?_⟩)
      · rw [av_get (by omega), List.getElem_append_right (by simp; omega)]
        simp only [List.length_take, Nat.min_eq_left hp, Nat.sub_self, List.getElem_cons_zero]
      · rw [pg_get h2]
        simp only [insP]
        rw [List.getElem_append_right (by simp; omega)]
        simp only [List.length_take, Nat.min_eq_left (show i ≤ L.length by omega), Nat.sub_self, List.getElem_cons_zero]
    · obtain ⟨j, rfl⟩ : ∃ j, i = p + 1 + j := ⟨i - (p + 1), by omega⟩
      refine .inr (.inr ⟨h1, ?_, ?_⟩)
      · rw [av_get (by omega), av_get (by omega), List.getElem_append_right (by simp; omega)]
        simp only [List.length_take, Nat.min_eq_left hp, show p + 1 + j - p = j + 1 by omega, List.getElem_cons_succ, List.getElem_drop, show p + 1 + j - 1 = p + j by omega]
      · rw [pg_get h2, pg_get (by omega)]
        simp only [insP]
        rw [List.getElem_append_right (by simp; omega)]
        simp only [List.length_take, Nat.min_eq_left (show p ≤ L.length by omega), show p + 1 + j - p = j + 1 by omega, List.getElem_cons_succ, List.getElem_drop, show p + 1 + j - 1 = p + j by omega]
  refine ⟨by rw [hlen, insP_len (by omega)]; omega, fun i hi => ?_, fun i hi => ?_⟩
  all_goals
    rw [hlen] at hi
    rcases key i hi with ⟨h1, h2, h3⟩ | ⟨h1, h2, h3⟩ | ⟨h1, h2, h3⟩
    · rw [h2, h3]; first | exact h.x i (by omega) | exact h.y i (by omega)
    · rw [h2, h3]; first | exact hx | exact hy
    · rw [h2, h3]; first | exact h.x (i - 1) (by omega) | exact h.y (i - 1) (by omega)
theorem rowA_drop (U : List AV) (p : Nat) : ∀ (j : Nat) (u : Value), (rowA (U.drop p))[j]? = some u → (rowA U)[p * 6 + j]? = some u := by
  induction U generalizing p with
  | nil => intro j u h; simp [rowA] at h
  | cons x U ih =>
    intro j u h
    cases p with
    | zero => simpa using h
    | succ p =>
      have h2 := ih p j u h
      have e : rowA (x :: U) = x.l ++ rowA U := by simp [rowA]
      rw [e, List.getElem?_append_right (by rw [AV.len]; omega), AV.len]
      rw [show (p + 1) * 6 + j - 6 = p * 6 + j by omega]
      exact h2
theorem rowA_take (U : List AV) (p : Nat) : ∀ (j : Nat) (u : Value), (rowA (U.take p))[j]? = some u → (rowA U)[j]? = some u := by
  intro j u h
  have e : rowA U = rowA (U.take p) ++ rowA (U.drop p) := by
    unfold rowA; rw [← List.flatMap_append, List.take_append_drop]
  have hl : j < (rowA (U.take p)).length := by
    rcases Nat.lt_or_ge j (rowA (U.take p)).length with h1 | h1
    · exact h1
    · rw [List.getElem?_eq_none h1] at h; cases h
  rw [e, List.getElem?_append_left hl]; exact h
theorem rowA_cons (x : AV) (U : List AV) : rowA (x :: U) = x.l ++ rowA U := by simp [rowA]
theorem rowA_app (U V : List AV) : rowA (U ++ V) = rowA U ++ rowA V := by simp [rowA]
theorem rowA_len (U : List AV) : (rowA U).length = U.length * 6 := flat_len AV.len U
theorem Rn.cases {W w0 : World} {a : Option Addr} {e : TypeId} {sz n c n' base : Nat} {xs : List Value} (h : Rn W (.slice a n' c) e sz n xs base w0) : (a = none ∧ n = 0 ∧ c = 0) ∨ ∃ g, a = some ⟨g, 0, none⟩ ∧ At W g xs w0 := by
  rcases h.rw'.out.2 with ⟨e1, e2⟩ | ⟨g, cap, cur, e1, _⟩
  · injection e1 with e3 _ e5; exact .inl ⟨e3, e2, e5⟩
  · injection e1 with e3 _ _
    subst e3
    exact .inr ⟨g, rfl, h.at⟩
theorem Rn.low {W w0 : World} {v : Value} {e : TypeId} {sz n base b' : Nat} {xs : List Value} (h : Rn W v e sz n xs base w0) (hb : b' ≤ base) : Rn W v e sz n xs b' w0 :=
  ⟨⟨⟨h.rw'.out.1, by
    rcases h.rw'.out.2 with hn | ⟨g, cap, cur, e1, h2, rest⟩
    · exact .inl hn
    · exact .inr ⟨g, cap, cur, e1, Nat.le_trans hb h2, rest⟩⟩, h.rw'.lt, h.rw'.ltW, Nat.le_trans hb h.rw'.hb⟩, h.nd⟩
theorem LenRet.fin {w w' : World} {a : Option Addr} {m m' c : Nat} [k : Kp w w'] (e : m' = m) : LenRet w m (.returned (.slice a m' c)) w' := by subst e; exact ⟨a, c, rfl, k.out⟩
theorem refCompareV {w : World} {g1x g1y g2x g2y : Bool} {a1x aa1x a1y aa1y a2x aa2x a2y aa2y : Option Addr} {l1x c1x ll1x cc1x l1y c1y ll1y cc1y l2x c2x ll2x cc2x l2y c2y ll2y cc2y k1x k1y k2x k2y : Nat} {x1 y1 x2 y2 : Rat} [h1x : CQ w (.agg #[.bool g1x, .slice a1x l1x c1x, .slice aa1x ll1x cc1x]) x1 k1x] [h1y : CQ w (.agg #[.bool g1y, .slice a1y l1y c1y, .slice aa1y ll1y cc1y]) y1 k1y] [h2x : CQ w (.agg #[.bool g2x, .slice a2x l2x c2x, .slice aa2x ll2x cc2x]) x2 k2x] [h2y : CQ w (.agg #[.bool g2y, .slice a2y l2y c2y, .slice aa2y ll2y cc2y]) y2 k2y] (b : k1x ≤ 9000 ∧ k1y ≤ 9000 ∧ k2x ≤ 9000 ∧ k2y ≤ 9000) {v : Int} (hv : Hid (cmpP (x1, y1) (x2, y2) = v)) :
    Calls Tryz.prog 88 #[.agg #[.bool g1x, .slice a1x l1x c1x, .slice aa1x ll1x cc1x, .bool g1y, .slice a1y l1y c1y, .slice aa1y ll1y cc1y], .agg #[.bool g2x, .slice a2x l2x c2x, .slice aa2x ll2x cc2x, .bool g2y, .slice a2y l2y c2y, .slice aa2y ll2y cc2y]] w (fun e w' => e = .returned (.int .i64 v) ∧ Below w.heap.size w w') := by
  have h := hv.out
  subst h
  exact refCompareC b
theorem sortedC {w w0 : World} {a : Option Addr} {n c : Nat} {V : List AV} {L : List (Rat × Rat)} {k : Nat} [hs : Sl w (.slice a n c) V.length (rowA V) w0] [hp : PsQ w V L k] (b : k ≤ 9000) (hV : V.length ≤ 1000) :
    Calls Tryz.prog 84 #[.slice a n c] w (LenRet w (dsc L L.length)) := by
  obtain rfl := hs.len
  have hlen := Lib.hid hp.len
  go_enter Tryz.func84, Tryz.ntmps84
  go_wp2_with fail
  go_loopw [9, 3] (fun i o wr => ∃ (q : Nat) (U : List AV) (N : List (Rat × Rat)), i = .int .i64 (q : Int) ∧ q ≤ V.length ∧ Rn wr o 47 6 U.length (rowA U) w.heap.size wr ∧ PsQ wr U N k ∧ Hid (SortOf L q N) ∧ Kp w wr) (fun i _ _ => V.length - (intOf i).toNat)
  case atStart => exact ⟨0, [], [], rfl, by omega, Rn.nil (Nat.le_refl _), PsQ.nil, Lib.hid (SortOf.nil L), inferInstance⟩
  case round =>
    obtain ⟨q, U, N, rfl, hq, i1, i2, hN, i3⟩ := hrel
    have kw := Kp1.mk i3.out
    have hNl : U.length ≤ 1000 := by
      have h1 := hN.out.len; have h2 := dsc_le L q; have h3 := i2.len; omega
    obtain ⟨a3, c3, rfl⟩ := i1.slice
    obtain ⟨hc1, hc2⟩ := i1.cap
    unfold maxLen at hc2
    by_cases hlt : q < V.length
    · obtain ⟨g, rfl, hA⟩ := hs.form (by omega)
      have hlt' : (q : Int) < V.length := by omega
      have lq : LtN q V.length := ⟨hlt⟩
      have ew : IntKind.i64.wrap ((q : Int) + 1) = (q : Int) + 1 := wr_in (by omega) (by omega)
      have HUl := Lib.hid i2.len
      go_wp2_with fail
      go_loopw [6] (fun i wx => ∃ p : Nat, i = .int .i64 (p : Int) ∧ p ≤ U.length ∧ Hid (∀ j, j < p → cmpP (pg N j) (pg L q) < 0) ∧ Bx wx wr.heap.size 47 (av V q).l ∧ Kp wr wx) (fun i _ => U.length - (intOf i).toNat)
      case atStart => exact ⟨0, rfl, by omega, Lib.hid (fun j hj => by omega), Bx.re rfl, inferInstance⟩
      case round =>
        obtain ⟨p, rfl, hp, hpl, j1, j2⟩ := hrel
        have kx := Kp1.mk j2.out
        simp only [AV.l] at j1
        by_cases hpt : p < U.length
        · have hpt' : (p : Int) < U.length := by omega
          have lp : LtN p U.length := ⟨hpt⟩
          have ep : IntKind.i64.wrap ((p : Int) + 1) = (p : Int) + 1 := wr_in (by omega) (by omega)
          obtain ⟨g2, rfl, hA2⟩ := (Sl.ofRn (h := i1)).form (by omega)
          obtain ⟨v, hv⟩ : ∃ v, cmpP ((pg N p).1, (pg N p).2) ((pg L q).1, (pg L q).2) = v := ⟨_, rfl⟩
          have HC := Lib.hid hv
          clear hv
          by_cases hneg : v < 0
          · go_wp2_with fail
            refine rgn [] [] fun hHeld => ?_
            refine tk 0 hHeld ?_
            refine tk 1 hHeld ?_
            refine tk 2 hHeld ?_
            refine tk 3 hHeld ?_
            refine tk 4 hHeld ?_
            refine tk 5 hHeld ?_
            refine tk 6 hHeld ?_
            refine tk 7 hHeld ?_
            refine tk 8 hHeld ?_
            refine tk 9 hHeld ?_
            refine st 10 fun K hK => ?_
            go_simp
            (with_reducible refine Calls.cE (refCompareV (by omega) HC) ?_); intros
            refine hd hK ?_
            clear hHeld hK K
            intro hHeld
            refine tk 11 hHeld ?_
            refine tk 12 hHeld ?_
            refine dn ?_
            clear hHeld
            go_wp2
            go_roundw
            case rel => exact ⟨p + 1, by go_num, by omega, Lib.hid (fun j hj => by
                rcases Nat.lt_or_ge j p with h | h
                · exact hpl.out j h
                · have : j = p := by omega
                  subst this; have h2 : cmpP (pg N j) (pg L q) = v := HC.out; omega), inferInstance, inferInstance⟩
            case measure => simp [intOf]; omega
          · have hge : ¬ (v < 0) := hneg
            have hge2 : 0 ≤ v := by omega
            have hne : ¬ ((p : Int) = (U.length : Int)) := by omega
            have hne2 : ((p : Int) == (U.length : Int)) = false := beq_false_of_ne hne
            have hne3 : ¬ (p = U.length) := by omega
            have hpc : (p : Int) ≤ c3 := by omega
            have hUc : (U.length : Int) ≤ c3 := by omega
            have hcp : ¬ (c3 = p) := by omega
            by_cases hz : v = 0
            · have hz2 : (v == 0) = true := by simpa using hz
              have hz3 : (v != 0) = false := by simp [hz]
              go_wp2_with fail
              refine rgn [] [] fun hHeld => ?_
              refine tk 0 hHeld ?_
              refine tk 1 hHeld ?_
              refine tk 2 hHeld ?_
              refine tk 3 hHeld ?_
              refine tk 4 hHeld ?_
              refine tk 5 hHeld ?_
              refine tk 6 hHeld ?_
              refine tk 7 hHeld ?_
              refine tk 8 hHeld ?_
              refine tk 9 hHeld ?_
              refine st 10 fun K hK => ?_
              go_simp
              (with_reducible refine Calls.cE (refCompareV (by omega) HC) ?_); intros
              refine hd hK ?_
              clear hHeld hK K
              intro hHeld
              refine tk 11 hHeld ?_
              refine tk 12 hHeld ?_
              refine dn ?_
              clear hHeld
              go_wp2_with fail
              refine rgn [] [] fun hHeld => ?_
              refine tk 0 hHeld ?_
              refine tk 1 hHeld ?_
              refine tk 2 hHeld ?_
              refine tk 3 hHeld ?_
              refine tk 4 hHeld ?_
              refine tk 5 hHeld ?_
              refine tk 6 hHeld ?_
              refine tk 7 hHeld ?_
              refine tk 8 hHeld ?_
              refine tk 9 hHeld ?_
              refine st 10 fun K hK => ?_
              go_simp
              (with_reducible refine Calls.cE (refCompareV (by omega) HC) ?_); intros
              refine hd hK ?_
              clear hHeld hK K
              intro hHeld
              refine tk 11 hHeld ?_
              refine tk 12 hHeld ?_
              refine dn ?_
              clear hHeld
              go_wp2
              go_roundw
              case rel => exact ⟨q + 1, U, N, by go_num, by omega, Rn.cast2 inferInstance rfl rfl, inferInstance, Lib.hid (SortOf.old hN.out (by rw [← hlen.out]; omega) (i := p) (by have := HUl.out; omega) (by have h2 : cmpP (pg N p) (pg L q) = v := HC.out; omega) (by have h2 : cmpP (pg N p) (pg L q) = v := HC.out; omega)), inferInstance⟩
              case measure => simp [intOf]; omega
            · have hz2 : (v == 0) = false := by simpa using hz
              have hz3 : (v != 0) = true := by simp [hz]
              go_wp2_with fail
              refine rgn [] [] fun hHeld => ?_
              refine tk 0 hHeld ?_
              refine tk 1 hHeld ?_
              refine tk 2 hHeld ?_
              refine tk 3 hHeld ?_
              refine tk 4 hHeld ?_
              refine tk 5 hHeld ?_
              refine tk 6 hHeld ?_
              refine tk 7 hHeld ?_
              refine tk 8 hHeld ?_
              refine tk 9 hHeld ?_
              refine st 10 fun K hK => ?_
              go_simp
              (with_reducible refine Calls.cE (refCompareV (by omega) HC) ?_); intros
              refine hd hK ?_
              clear hHeld hK K
              intro hHeld
              refine tk 11 hHeld ?_
              refine tk 12 hHeld ?_
              refine dn ?_
              clear hHeld
              go_wp2_with fail
              refine rgn [] [] fun hHeld => ?_
              refine tk 0 hHeld ?_
              refine tk 1 hHeld ?_
              refine tk 2 hHeld ?_
              refine tk 3 hHeld ?_
              refine tk 4 hHeld ?_
              refine tk 5 hHeld ?_
              refine tk 6 hHeld ?_
              refine tk 7 hHeld ?_
              refine tk 8 hHeld ?_
              refine tk 9 hHeld ?_
              refine st 10 fun K hK => ?_
              go_simp
              (with_reducible refine Calls.cE (refCompareV (by omega) HC) ?_); intros
              refine hd hK ?_
              clear hHeld hK K
              intro hHeld
              refine tk 11 hHeld ?_
              refine tk 12 hHeld ?_
              refine dn ?_
              clear hHeld
              go_wp2_with fail
              refine rgn [] [] fun hHeld => ?_
              refine tk 0 hHeld ?_
              refine tk 1 hHeld ?_
              refine tk 2 hHeld ?_
              refine tk 3 hHeld ?_
              refine tk 4 hHeld ?_
              refine tk 6 hHeld ?_
              refine tk 7 hHeld ?_
              refine tk 8 hHeld ?_
              refine st 5 fun K hK => ?_
              go_simp
              refine hd hK ?_
              clear hHeld hK K
              intro hHeld
              refine st 9 fun K hK => ?_
              rw [if_pos (by rfl)]
              refine appO_full (.tmp 46) (.tmp 49) 61 rfl Tryz.underlying61 info_q rfl (by decide) (by decide) inferInstance (n := 1) (xs := (av V q).l) rfl (.inr ⟨_, rfl, fun j u hu => by rw [add_off, Nat.zero_add, cell_bx]; exact hu⟩) rfl (AV.nd _) rfl (l := rowA (U.drop p)) (fun j u hu => by rw [add_off]; exact (inferInstance : At _ g2 (rowA U) _).out _ _ (rowA_drop U p j u hu)) (by rw [rowA_len, List.length_drop]) (rowA_nd _) (by omega) (by omega) ?_
              intro g4 c4 W4 k4 i4
              have at4 := i4.at
              refine hd hK ?_
              clear hHeld hK K
              intro hHeld
              refine st 10 fun K hK => ?_
              rw [if_pos (by rfl)]
              refine appO_full (.tmp 44) (.tmp 50) 61 rfl Tryz.underlying61 info_q rfl (by decide) (by decide) inferInstance (n := p) (xs := rowA (U.take p)) rfl (.inr ⟨_, rfl, fun j u hu => by rw [add_off, Nat.zero_add]; exact (inferInstance : At _ g2 (rowA U) _).out _ _ (rowA_take U p j u hu)⟩) (by rw [rowA_len, List.length_take, Nat.min_eq_left (by omega)]) (rowA_nd _) rfl (l := (av V q).l ++ rowA (U.drop p)) (fun j u hu => by rw [add_off, Nat.zero_add]; exact at4.out _ _ hu) (by rw [List.length_append, AV.len, rowA_len, List.length_drop]; omega) (by rw [← rowA_cons]; exact rowA_nd _) (by omega) (by omega) ?_
              intro g5 c5 W5 k5 i5
              refine hd hK ?_
              clear hHeld hK K
              intro hHeld
              refine tk 11 hHeld ?_
              refine dn ?_
              clear hHeld
              go_wp2
              go_roundw
              case rel => exact ⟨q + 1, U.take p ++ av V q :: U.drop p, insP N p (pg L q), by go_num, by omega, Rn.cast2 (Rn.low i5 Ge.out) (by first | (simp; done) | (simp; omega)) (by rw [rowA_app, rowA_cons]), PsQ.ins inferInstance (by omega) inferInstance inferInstance, Lib.hid (SortOf.new hN.out (by rw [← hlen.out]; omega) ⟨by have := HUl.out; omega, hpl.out⟩ (.inr (by have h2 : cmpP (pg N p) (pg L q) = v := HC.out; omega))), inferInstance⟩
              case measure => simp [intOf]; omega
        · obtain rfl : p = U.length := by omega
          rcases i1.cases with ⟨rfl, h0, rfl⟩ | ⟨g2, rfl, hA2⟩
          · obtain rfl : U = [] := List.eq_nil_of_length_eq_zero h0
            clear h0
            go_wp2_with fail
            refine rgn [] [] fun hHeld => ?_
            refine tk 0 hHeld ?_
            refine tk 1 hHeld ?_
            refine tk 2 hHeld ?_
            refine tk 3 hHeld ?_
            refine tk 4 hHeld ?_
            refine tkU 5 hHeld ?_
            refine tkU 6 hHeld ?_
            refine tkU 7 hHeld ?_
            refine tkU 8 hHeld ?_
            refine tkU 9 hHeld ?_
            refine tkU 10 hHeld ?_
            refine tkU 11 hHeld ?_
            refine tk 12 hHeld ?_
            refine dn ?_
            clear hHeld
            go_wp2_with fail
            refine rgn [] [] fun hHeld => ?_
            refine tk 0 hHeld ?_
            refine tk 1 hHeld ?_
            refine tk 2 hHeld ?_
            refine tk 3 hHeld ?_
            refine tk 4 hHeld ?_
            refine tkU 5 hHeld ?_
            refine tkU 6 hHeld ?_
            refine tkU 7 hHeld ?_
            refine tkU 8 hHeld ?_
            refine tkU 9 hHeld ?_
            refine tkU 10 hHeld ?_
            refine tkU 11 hHeld ?_
            refine tk 12 hHeld ?_
            refine dn ?_
            clear hHeld
            go_wp2_with fail
            refine rgn [] [] fun hHeld => ?_
            refine tk 0 hHeld ?_
            refine tk 1 hHeld ?_
            refine tk 2 hHeld ?_
            refine tk 3 hHeld ?_
            refine tk 4 hHeld ?_
            refine tk 6 hHeld ?_
            refine tk 7 hHeld ?_
            refine tk 8 hHeld ?_
            refine st 5 fun K hK => ?_
            go_simp
            refine hd hK ?_
            clear hHeld hK K
            intro hHeld
            refine st 9 fun K hK => ?_
            rw [if_pos (by rfl)]
            refine appO_none (.tmp 46) (.tmp 49) 61 rfl Tryz.underlying61 info_q rfl (Nat.le_refl _) rfl (.inl ⟨_, rfl⟩) ?_
            refine hd hK ?_
            clear hHeld hK K
            intro hHeld
            refine st 10 fun K hK => ?_
            rw [if_pos (by rfl)]
            refine appO_full (.tmp 44) (.tmp 50) 61 rfl Tryz.underlying61 info_q rfl (by decide) (by decide) inferInstance (xs := rowA ([] : List AV)) rfl (.inl ⟨rfl, rfl⟩) (rowA_len _) (rowA_nd _) rfl (l := (av V q).l) (fun j u hu => by rw [add_off, Nat.zero_add, cell_bx]; exact hu) rfl (AV.nd _) (by decide) (by omega) ?_
            intro g5 c5 W5 k5 i5
            refine hd hK ?_
            clear hHeld hK K
            intro hHeld
            refine tk 11 hHeld ?_
            refine dn ?_
            clear hHeld
            go_wp2
            go_roundw
            case rel => exact ⟨q + 1,  av V q :: [], insP N 0 (pg L q), by go_num, by omega, Rn.cast2 (Rn.low i5 Ge.out) (by first | (simp; done) | (simp; omega)) (by simp [rowA]), PsQ.ins (V := []) inferInstance (Nat.le_refl _) inferInstance inferInstance, Lib.hid (SortOf.new hN.out (by rw [← hlen.out]; omega) ⟨by have := HUl.out; omega, hpl.out⟩ (.inl HUl.out)), inferInstance⟩
            case measure => simp [intOf]; omega
          · by_cases hcU : c3 = U.length
            · subst hcU
              go_wp2_with fail
              refine rgn [] [] fun hHeld => ?_
              refine tk 0 hHeld ?_
              refine tk 1 hHeld ?_
              refine tk 2 hHeld ?_
              refine tk 3 hHeld ?_
              refine tk 4 hHeld ?_
              refine tkU 5 hHeld ?_
              refine tkU 6 hHeld ?_
              refine tkU 7 hHeld ?_
              refine tkU 8 hHeld ?_
              refine tkU 9 hHeld ?_
              refine tkU 10 hHeld ?_
              refine tkU 11 hHeld ?_
              refine tk 12 hHeld ?_
              refine dn ?_
              clear hHeld
              go_wp2_with fail
              refine rgn [] [] fun hHeld => ?_
              refine tk 0 hHeld ?_
              refine tk 1 hHeld ?_
              refine tk 2 hHeld ?_
              refine tk 3 hHeld ?_
              refine tk 4 hHeld ?_
              refine tkU 5 hHeld ?_
              refine tkU 6 hHeld ?_
              refine tkU 7 hHeld ?_
              refine tkU 8 hHeld ?_
              refine tkU 9 hHeld ?_
              refine tkU 10 hHeld ?_
              refine tkU 11 hHeld ?_
              refine tk 12 hHeld ?_
              refine dn ?_
              clear hHeld
              go_wp2_with fail
              refine rgn [] [] fun hHeld => ?_
              refine tk 0 hHeld ?_
              refine tk 1 hHeld ?_
              refine tk 2 hHeld ?_
              refine tk 3 hHeld ?_
              refine tk 4 hHeld ?_
              refine tk 6 hHeld ?_
              refine tk 7 hHeld ?_
              refine tk 8 hHeld ?_
              refine st 5 fun K hK => ?_
              go_simp
              refine hd hK ?_
              clear hHeld hK K
              intro hHeld
              refine st 9 fun K hK => ?_
              rw [if_pos (by rfl)]
              refine appO_none (.tmp 46) (.tmp 49) 61 rfl Tryz.underlying61 info_q rfl (Nat.le_refl _) rfl (.inr ⟨_, _, rfl⟩) ?_
              refine hd hK ?_
              clear hHeld hK K
              intro hHeld
              refine st 10 fun K hK => ?_
              rw [if_pos (by rfl)]
              refine appO_full (.tmp 44) (.tmp 50) 61 rfl Tryz.underlying61 info_q rfl (by decide) (by decide) inferInstance (xs := rowA U) rfl (.inr ⟨_, rfl, fun j u hu => by rw [add_off, Nat.zero_add]; exact (inferInstance : At _ g2 (rowA U) _).out _ _ hu⟩) (rowA_len _) (rowA_nd _) rfl (l := (av V q).l) (fun j u hu => by rw [add_off, Nat.zero_add, cell_bx]; exact hu) rfl (AV.nd _) (by decide) (by omega) ?_
              intro g5 c5 W5 k5 i5
              refine hd hK ?_
              clear hHeld hK K
              intro hHeld
              refine tk 11 hHeld ?_
              refine dn ?_
              clear hHeld
              go_wp2
              go_roundw
              case rel => exact ⟨q + 1, U.take U.length ++ av V q :: U.drop U.length, insP N U.length (pg L q), by go_num, by omega, Rn.cast2 (Rn.low i5 Ge.out) (by first | (simp; done) | (simp; omega)) (by rw [List.take_length, List.drop_length, rowA_app, rowA_cons]; simp [rowA]), PsQ.ins inferInstance (by omega) inferInstance inferInstance, Lib.hid (SortOf.new hN.out (by rw [← hlen.out]; omega) ⟨by have := HUl.out; omega, hpl.out⟩ (.inl HUl.out)), inferInstance⟩
              case measure => simp [intOf]; omega
            · go_wp2_with fail
              refine rgn [] [] fun hHeld => ?_
              refine tk 0 hHeld ?_
              refine tk 1 hHeld ?_
              refine tk 2 hHeld ?_
              refine tk 3 hHeld ?_
              refine tk 4 hHeld ?_
              refine tkU 5 hHeld ?_
              refine tkU 6 hHeld ?_
              refine tkU 7 hHeld ?_
              refine tkU 8 hHeld ?_
              refine tkU 9 hHeld ?_
              refine tkU 10 hHeld ?_
              refine tkU 11 hHeld ?_
              refine tk 12 hHeld ?_
              refine dn ?_
              clear hHeld
              go_wp2_with fail
              refine rgn [] [] fun hHeld => ?_
              refine tk 0 hHeld ?_
              refine tk 1 hHeld ?_
              refine tk 2 hHeld ?_
              refine tk 3 hHeld ?_
              refine tk 4 hHeld ?_
              refine tkU 5 hHeld ?_
              refine tkU 6 hHeld ?_
              refine tkU 7 hHeld ?_
              refine tkU 8 hHeld ?_
              refine tkU 9 hHeld ?_
              refine tkU 10 hHeld ?_
              refine tkU 11 hHeld ?_
              refine tk 12 hHeld ?_
              refine dn ?_
              clear hHeld
              go_wp2_with fail
              refine rgn [] [] fun hHeld => ?_
              refine tk 0 hHeld ?_
              refine tk 1 hHeld ?_
              refine tk 2 hHeld ?_
              refine tk 3 hHeld ?_
              refine tk 4 hHeld ?_
              refine tk 6 hHeld ?_
              refine tk 7 hHeld ?_
              refine tk 8 hHeld ?_
              refine st 5 fun K hK => ?_
              go_simp
              refine hd hK ?_
              clear hHeld hK K
              intro hHeld
              refine st 9 fun K hK => ?_
              rw [if_pos (by rfl)]
              refine appO_none (.tmp 46) (.tmp 49) 61 rfl Tryz.underlying61 info_q rfl (Nat.le_refl _) rfl (.inr ⟨_, _, rfl⟩) ?_
              refine hd hK ?_
              clear hHeld hK K
              intro hHeld
              refine st 10 fun K hK => ?_
              rw [if_pos (by rfl)]
              refine appO_full (.tmp 44) (.tmp 50) 61 rfl Tryz.underlying61 info_q rfl (by decide) (by decide) inferInstance (xs := rowA U) rfl (.inr ⟨_, rfl, fun j u hu => by rw [add_off, Nat.zero_add]; exact (inferInstance : At _ g2 (rowA U) _).out _ _ hu⟩) (rowA_len _) (rowA_nd _) rfl (l := (av V q).l) (fun j u hu => by rw [add_off, Nat.zero_add, cell_bx]; exact hu) rfl (AV.nd _) (by decide) (by omega) ?_
              intro g5 c5 W5 k5 i5
              refine hd hK ?_
              clear hHeld hK K
              intro hHeld
              refine tk 11 hHeld ?_
              refine dn ?_
              clear hHeld
              go_wp2
              go_roundw
              case rel => exact ⟨q + 1, U.take U.length ++ av V q :: U.drop U.length, insP N U.length (pg L q), by go_num, by omega, Rn.cast2 (Rn.low i5 Ge.out) (by first | (simp; done) | (simp; omega)) (by rw [List.take_length, List.drop_length, rowA_app, rowA_cons]; simp [rowA]), PsQ.ins inferInstance (by omega) inferInstance inferInstance, Lib.hid (SortOf.new hN.out (by rw [← hlen.out]; omega) ⟨by have := HUl.out; omega, hpl.out⟩ (.inl HUl.out)), inferInstance⟩
              case measure => simp [intOf]; omega
    · obtain rfl : q = V.length := by omega
      go_wp2_with fail
      go_ret
      exact LenRet.fin (by have h1 := hN.out.len; have h2 := i2.len; rw [← hlen.out]; omega)
end Go.Proofs.YtdlnoeegboapkaaGreatDoor

/- Rotations and the order of rings, the least rotation: package geo and the reference. printed by a small program (mkrg9.py). -/
namespace Go.Proofs.YtdlnoeegboapkaaGreatDoor
open Go.RowKit
set_option maxRecDepth 100000
set_option maxHeartbeats 40000000
set_option synthInstance.maxSize 100000
set_option synthInstance.maxHeartbeats 1000000
set_option linter.unusedVariables false

instance (priority := low) Ex.ap {W0 W W2 w0 : World} {base : Nat} {L : List Nat} [k : Ap1 W W2 base w0] [h : Ex W0 L W] [n : Gg W0 base] : Ex W0 L W2 :=
  ⟨Nat.le_trans h.size k.size, fun b hb hL => by rw [k.block (Nat.lt_of_lt_of_le hb h.size) (.inl (Nat.lt_of_lt_of_le hb n.out))]; exact h.block b hb hL⟩
/-- append to a row of the call's own, as an operation. -/
theorem appO_own {W w0 : World} {o : Oper} {a : Act} {K : Act → World → Prop} {Q : Exit → Act → World → Prop} (s x : Operand) (t : TypeId)
    (hop : o.op = .call { callee := .builtin .append, args := #[s, x], argTypes := #[t, t] }) {e : TypeId} (ht : Tryz.prog.underlying t = some (.slice e)) {z : Value} {sz bt : Nat}
    (hi : (Tryz.prog.info? e).map (fun i => (i.zero, i.size, i.bytes)) = some (some z, sz, bt)) (hzs : z.cells.size = sz) (hsz : 0 < sz) (hbt : bt ≤ 1000) (hz0 : ∀ u ∈ z.cells.toList, isDigit32 u = false) (he : BoxT e) {v : Value} {n : Nat} {xs : List Value} {base : Nat} (hs : a.eval s = v) [hr : Rn W v e sz n xs base w0]
    (hnx : ∀ u ∈ xs, isDigit32 u = false) {ad : Addr} {m c : Nat} {l : List Value} (hx : a.eval x = .slice (some ad) m c) (hb : ∀ j u, l[j]? = some u → W.cell? (ad.add j) = some u) (hl : l.length = m * sz) (h1 : ∀ u ∈ l, u.oneCell' = true) (hnl : ∀ u ∈ l, isDigit32 u = false) (hm : 0 < m) (hn : n + m ≤ 1000000)
    (hK : ∀ g c W' [Ap1 W W' base w0] [Apn W W'] [Rn W' (.slice (some ⟨g, 0, none⟩) (n + m) c) e sz (n + m) (xs ++ l) base W'], K (a.put o.dst (.slice (some ⟨g, 0, none⟩) (n + m) c)) W') :
    Oper.wp Tryz.prog o a W K Q := by
  obtain ⟨i0, hi0⟩ : ∃ i0, Tryz.prog.info? e = some i0 := by
    cases h : Tryz.prog.info? e with
    | none => rw [h] at hi; cases hi
    | some i0 => exact ⟨i0, rfl⟩
  rw [hi0] at hi
  simp only [Option.map_some, Option.some.injEq, Prod.mk.injEq] at hi
  obtain ⟨hz, hsz', hbt'⟩ := hi
  have hby : (n + m) * bt ≤ 140737488355328 := by
    have : (n + m) * bt ≤ 1000000 * 1000 := Nat.mul_le_mul hn hbt
    omega
  have hmx : n + m ≤ maxLen := by unfold maxLen; omega
  obtain ⟨v', w', hrun, h2, h3, h4⟩ := run_append_own (P := Tryz.prog) W base t o.type e i0 z sz bt ht hi0 hz hsz' hbt' hzs hsz v n xs hr.rw'.out ad m c l hl hb h1 hmx hby hr.rw'.hb
  have hsoft := append_nd (P := Tryz.prog) W t o.type e i0 z ht hi0 hz he (base := base) (by rw [hsz']; exact hr.rw'.out) hr.nd hnx ad m c l (by rw [hsz']; exact hl) hb h1 hnl hz0 hmx (by rw [hbt']; exact hby) hrun
  unfold Oper.wp execOp
  simp only [hop, resolve, invoke, builtin, Sem.run_bind, Sem.run_pure, Result.andThen_ok, List.map_toArray, List.map_cons, List.map_nil, hs, hx, hrun]
  have hne : v' ≠ .slice none 0 0 := fun e => by have := (h4.1 e).2; omega
  rcases h2.2 with ⟨e', _⟩ | ⟨g, cap, cur, e', _⟩
  · exact absurd e' hne
  · subst e'
    have i1 : Ap1 W w' base w0 := ⟨⟨_, h3, fun k hk => ⟨(hr.rw'.out.lt k hk).1, hr.rw'.lt k hk⟩⟩⟩
    have i2 : Apn W w' := ⟨⟨_, h3, hr.nd⟩⟩
    have i3 : Rn w' (.slice (some ⟨g, 0, none⟩) (n + m) cap) e sz (n + m) (xs ++ l) base w' := ⟨Rw.mk1 h2 (Nat.le_trans hr.rw'.hb h3.size), hsoft⟩
    exact @hK g cap w' i1 i2 i3
theorem rowF_drop (U : List FV) (p : Nat) : ∀ (j : Nat) (u : Value), (rowF (U.drop p))[j]? = some u → (rowF U)[p * 6 + j]? = some u := by
  induction U generalizing p with
  | nil => intro j u h; simp [rowF] at h
  | cons x U ih =>
    intro j u h
    cases p with
    | zero => simpa using h
    | succ p =>
      have h2 := ih p j u h
      have e : rowF (x :: U) = x.l ++ rowF U := by simp [rowF]
      rw [e, List.getElem?_append_right (by rw [FV.len]; omega), FV.len]
      rw [show (p + 1) * 6 + j - 6 = p * 6 + j by omega]
      exact h2
theorem rowF_take (U : List FV) (p : Nat) : ∀ (j : Nat) (u : Value), (rowF (U.take p))[j]? = some u → (rowF U)[j]? = some u := by
  intro j u h
  have e : rowF U = rowF (U.take p) ++ rowF (U.drop p) := by
    unfold rowF; rw [← List.flatMap_append, List.take_append_drop]
  have hl : j < (rowF (U.take p)).length := by
    rcases Nat.lt_or_ge j (rowF (U.take p)).length with h1 | h1
    · exact h1
    · rw [List.getElem?_eq_none h1] at h; cases h
  rw [e, List.getElem?_append_left hl]; exact h
theorem rowF_app (U V : List FV) : rowF (U ++ V) = rowF U ++ rowF V := by simp [rowF]
theorem rowF_len (U : List FV) : (rowF U).length = U.length * 6 := flat_len FV.len U
theorem rowF_one (U : List FV) : ∀ u ∈ rowF U, u.oneCell' = true := flat_one FV.one U
theorem PsF.part {W : World} {V : List FV} {L : List (Rat × Rat)} {k : Nat} (h : PsF W V L k) {V2 : List FV} {L2 : List (Rat × Rat)} (hl : V2.length = L2.length) (hs : ∀ i, i < V2.length → ∃ j, j < V.length ∧ fv V2 i = fv V j ∧ pg L2 i = pg L j) : PsF W V2 L2 k := by
  refine ⟨hl, fun i hi => ?_, fun i hi => ?_⟩
  all_goals
    obtain ⟨j, h1, h2, h3⟩ := hs i hi
    rw [h2, h3]
    first | exact h.x j h1 | exact h.y j h1
theorem PsF.turn {W : World} {V : List FV} {L : List (Rat × Rat)} {k i : Nat} [h : PsF W V L k] (hi : i < V.length) : PsF W (V.drop i ++ V.take i) (rot L i) k := by
  have hl := h.len
  refine h.part (by rw [rot_len]; simp; omega) (fun j hj => ?_)
  have hj2 : j < V.length := by simp at hj; omega
  have hj3 : j < (rot L i).length := by rw [rot_len]; omega
  by_cases hc : j < V.length - i
  · refine ⟨i + j, by omega, ?_, ?_⟩
    · rw [fv_get hj, fv_get (by omega), List.getElem_append_left (by rw [List.length_drop]; exact hc), List.getElem_drop]
    · rw [pg_get hj3, pg_get (by omega)]
      simp only [rot]
      rw [List.getElem_append_left (by rw [List.length_drop]; omega), List.getElem_drop]
  · refine ⟨j - (V.length - i), by omega, ?_, ?_⟩
    · rw [fv_get hj, fv_get (by omega), List.getElem_append_right (by rw [List.length_drop]; omega), List.getElem_take]
      simp only [List.length_drop]
    · rw [pg_get hj3, pg_get (by omega)]
      simp only [rot]
      rw [List.getElem_append_right (by rw [List.length_drop]; omega), List.getElem_take]
      simp only [List.length_drop, hl]
theorem PsQ.part {W : World} {V : List AV} {L : List (Rat × Rat)} {k : Nat} (h : PsQ W V L k) {V2 : List AV} {L2 : List (Rat × Rat)} (hl : V2.length = L2.length) (hs : ∀ i, i < V2.length → ∃ j, j < V.length ∧ av V2 i = av V j ∧ pg L2 i = pg L j) : PsQ W V2 L2 k := by
  refine ⟨hl, fun i hi => ?_, fun i hi => ?_⟩
  all_goals
    obtain ⟨j, h1, h2, h3⟩ := hs i hi
    rw [h2, h3]
    first | exact h.x j h1 | exact h.y j h1
theorem PsQ.turn {W : World} {V : List AV} {L : List (Rat × Rat)} {k i : Nat} [h : PsQ W V L k] (hi : i < V.length) : PsQ W (V.drop i ++ V.take i) (rot L i) k := by
  have hl := h.len
  refine h.part (by rw [rot_len]; simp; omega) (fun j hj => ?_)
  have hj2 : j < V.length := by simp at hj; omega
  have hj3 : j < (rot L i).length := by rw [rot_len]; omega
  by_cases hc : j < V.length - i
  · refine ⟨i + j, by omega, ?_, ?_⟩
    · rw [av_get hj, av_get (by omega), List.getElem_append_left (by rw [List.length_drop]; exact hc), List.getElem_drop]
    · rw [pg_get hj3, pg_get (by omega)]
      simp only [rot]
      rw [List.getElem_append_left (by rw [List.length_drop]; omega), List.getElem_drop]
  · refine ⟨j - (V.length - i), by omega, ?_, ?_⟩
    · rw [av_get hj, av_get (by omega), List.getElem_append_right (by rw [List.length_drop]; omega), List.getElem_take]
      simp only [List.length_drop]
    · rw [pg_get hj3, pg_get (by omega)]
      simp only [rot]
      rw [List.getElem_append_right (by rw [List.length_drop]; omega), List.getElem_take]
      simp only [List.length_drop, hl]
theorem PsA.part {W : World} {V : List AV} {L : List (Rat × Rat)} {k : Nat} (h : PsA W V L k) {V2 : List AV} {L2 : List (Rat × Rat)} (hl : V2.length = L2.length) (hs : ∀ i, i < V2.length → ∃ j, j < V.length ∧ av V2 i = av V j ∧ pg L2 i = pg L j) : PsA W V2 L2 k := by
  refine ⟨hl, fun i hi => ?_, fun i hi => ?_⟩
  all_goals
    obtain ⟨j, h1, h2, h3⟩ := hs i hi
    rw [h2, h3]
    first | exact h.x j h1 | exact h.y j h1
theorem PsA.turn {W : World} {V : List AV} {L : List (Rat × Rat)} {k i : Nat} [h : PsA W V L k] (hi : i < V.length) : PsA W (V.drop i ++ V.take i) (rot L i) k := by
  have hl := h.len
  refine h.part (by rw [rot_len]; simp; omega) (fun j hj => ?_)
  have hj2 : j < V.length := by simp at hj; omega
  have hj3 : j < (rot L i).length := by rw [rot_len]; omega
  by_cases hc : j < V.length - i
  · refine ⟨i + j, by omega, ?_, ?_⟩
    · rw [av_get hj, av_get (by omega), List.getElem_append_left (by rw [List.length_drop]; exact hc), List.getElem_drop]
    · rw [pg_get hj3, pg_get (by omega)]
      simp only [rot]
      rw [List.getElem_append_left (by rw [List.length_drop]; omega), List.getElem_drop]
  · refine ⟨j - (V.length - i), by omega, ?_, ?_⟩
    · rw [av_get hj, av_get (by omega), List.getElem_append_right (by rw [List.length_drop]; omega), List.getElem_take]
      simp only [List.length_drop]
    · rw [pg_get hj3, pg_get (by omega)]
      simp only [rot]
      rw [List.getElem_append_right (by rw [List.length_drop]; omega), List.getElem_take]
      simp only [List.length_drop, hl]
theorem rotC {w w0 : World} {a : Option Addr} {n c : Nat} {V : List FV} {L : List (Rat × Rat)} {k : Nat} [hs : Sl w (.slice a n c) V.length (rowF V) w0] [hp : PsF w V L k] {i : Nat} (hi : i < V.length) (hV : V.length ≤ 1000) :
    Calls Tryz.prog 149 #[.slice a n c, .int .i64 (i : Int)] w (PsFRet w (rot L i) k) := by
  obtain rfl := hs.len
  have hlen := Lib.hid hp.len
  have hcap := hs.capc
  obtain ⟨g, rfl, hA⟩ := hs.form (by omega)
  have hci : ¬ (c = i) := by omega
  have hic : i ≤ c := by omega
  have hil : i ≤ V.length := by omega
  have hi' : (i : Int) < V.length := by omega
  have hi2 : (i : Int) ≤ V.length := by omega
  go_enter Tryz.func149, Tryz.ntmps149
  by_cases h0 : i = 0
  · subst h0
    rw [show (((0 : Nat)) : Int) = 0 from rfl]
    go_wp2_with fail
    refine rgn [] [] fun hHeld => ?_
    refine tk 0 hHeld ?_
    refine tk 1 hHeld ?_
    refine tk 2 hHeld ?_
    refine tk 4 hHeld ?_
    refine tk 5 hHeld ?_
    refine tk 6 hHeld ?_
    refine st 3 fun K hK => ?_
    rw [if_pos (by rfl)]
    refine appO_full (.const (.slice none 0 0)) (.tmp 7) 131 rfl Tryz.underlying131 info_f rfl (by decide) (by decide) inferInstance (n := 0) (xs := []) rfl (.inl ⟨rfl, rfl⟩) rfl (by simp) rfl (l := rowF V) (fun j u hu => by rw [add_off, Nat.zero_add]; exact (inferInstance : At _ g (rowF V) _).out _ _ hu) (rowF_len _) (rowF_nd _) (by omega) (by omega) ?_
    intro g4 c4 W4 k4 i4
    simp only [Nat.zero_add, List.nil_append] at i4 ⊢
    have hc4 := i4.cap.1
    refine hd hK ?_
    clear hHeld hK K
    intro hHeld
    refine st 7 fun K hK => ?_
    rw [if_pos (by rfl)]
    refine appO_none (.tmp 8) (.tmp 11) 131 rfl Tryz.underlying131 info_f rfl hc4 rfl (.inr ⟨_, _, rfl⟩) ?_
    refine hd hK ?_
    clear hHeld hK K
    intro hHeld
    refine tk 8 hHeld ?_
    refine dn ?_
    clear hHeld
    go_wp2
    go_ret
    exact PsFRet.fin (V := V.drop 0 ++ V.take 0) (hs := Sl.ofRn (h := Rn.cast2 i4 (by simp) (by simp))) (hv := PsF.turn (h := inferInstance) (by omega)) rfl (Nat.le_refl _)
  · have h0' : ¬ (V.length = i) := by omega
    have h0'' : ¬ (i = 0) := h0
    go_wp2_with fail
    refine rgn [] [] fun hHeld => ?_
    refine tk 0 hHeld ?_
    refine tk 1 hHeld ?_
    refine tk 2 hHeld ?_
    refine tk 4 hHeld ?_
    refine tk 5 hHeld ?_
    refine tk 6 hHeld ?_
    refine st 3 fun K hK => ?_
    rw [if_pos (by rfl)]
    refine appO_full (.const (.slice none 0 0)) (.tmp 7) 131 rfl Tryz.underlying131 info_f rfl (by decide) (by decide) inferInstance (n := 0) (xs := []) rfl (.inl ⟨rfl, rfl⟩) rfl (by simp) rfl (l := rowF (V.drop i)) (fun j u hu => by rw [add_off]; exact (inferInstance : At _ g (rowF V) _).out _ _ (rowF_drop V i j u hu)) (by rw [rowF_len, List.length_drop]) (rowF_nd _) (by omega) (by omega) ?_
    intro g4 c4 W4 k4 i4
    simp only [Nat.zero_add, List.nil_append] at i4 ⊢
    refine hd hK ?_
    clear hHeld hK K
    intro hHeld
    refine st 7 fun K hK => ?_
    rw [if_pos (by rfl)]
    refine appO_own (v := .slice (some ⟨g4, 0, none⟩) (V.length - i) c4) (.tmp 8) (.tmp 11) 131 rfl Tryz.underlying131 info_f rfl (by decide) (by decide) (by decide) inferInstance rfl (rowF_nd _) rfl (l := rowF (V.take i)) (fun j u hu => by rw [add_off, Nat.zero_add]; exact (inferInstance : At _ g (rowF V) _).out _ _ (rowF_take V i j u hu)) (by rw [rowF_len, List.length_take, Nat.min_eq_left (by omega)]) (rowF_one _) (rowF_nd _) (by omega) (by omega) ?_
    intro g5 c5 W5 k5 k5n i5
    simp only [Nat.sub_add_cancel (show i ≤ V.length by omega)] at i5 ⊢
    refine hd hK ?_
    clear hHeld hK K
    intro hHeld
    refine tk 8 hHeld ?_
    refine dn ?_
    clear hHeld
    go_wp2
    go_ret
    exact PsFRet.fin (V := V.drop i ++ V.take i) (hs := Sl.ofRn (h := Rn.cast2 i5 (by simp; omega) (by simp [rowF_app]))) (hv := PsF.turn (h := inferInstance) (by omega)) rfl (Nat.le_refl _)
theorem ptCmpV {w : World} {n1x d1x n1y d1y n2x d2x n2y d2y : Int} {p1x p1y p2x p2y : Option Addr} {x1 y1 x2 y2 : Rat} {k1x k1y k2x k2y : Nat} [h1x : CF w (.agg #[.int .i64 n1x, .int .i64 d1x, .pointer p1x]) x1 k1x] [h1y : CF w (.agg #[.int .i64 n1y, .int .i64 d1y, .pointer p1y]) y1 k1y] [h2x : CF w (.agg #[.int .i64 n2x, .int .i64 d2x, .pointer p2x]) x2 k2x] [h2y : CF w (.agg #[.int .i64 n2y, .int .i64 d2y, .pointer p2y]) y2 k2y] (b : k1x ≤ 100000 ∧ k1y ≤ 100000 ∧ k2x ≤ 100000 ∧ k2y ≤ 100000) {v : Int} (hv : Hid (cmpP (x1, y1) (x2, y2) = v)) :
    Calls Tryz.prog 148 #[.agg #[.int .i64 n1x, .int .i64 d1x, .pointer p1x, .int .i64 n1y, .int .i64 d1y, .pointer p1y], .agg #[.int .i64 n2x, .int .i64 d2x, .pointer p2x, .int .i64 n2y, .int .i64 d2y, .pointer p2y]] w (fun e w' => e = .returned (.int .i64 v) ∧ Below w.heap.size w w') := by
  have h := hv.out
  subst h
  exact ptCmpC b
theorem ringCmpV {w w0 w1 : World} {a a2 : Option Addr} {n c n2 c2 : Nat} {V V2 : List FV} {L M : List (Rat × Rat)} {k k2 : Nat} [hs : Sl w (.slice a n c) V.length (rowF V) w0] [hp : PsF w V L k] [hs2 : Sl w (.slice a2 n2 c2) V2.length (rowF V2) w1] [hp2 : PsF w V2 M k2] {res : Int} (b : k ≤ 90000 ∧ k2 ≤ 90000) (hV : V.length ≤ 1000 ∧ V2.length ≤ 1000) (hr : Hid (cmpLs L M = res)) :
    Calls Tryz.prog 87 #[.slice a n c, .slice a2 n2 c2] w (fun e w' => e = .returned (.int .i64 res) ∧ Below w.heap.size w w') := by
  obtain rfl := hs.len
  obtain rfl := hs2.len
  have hlen := Lib.hid hp.len
  have hlen2 := Lib.hid hp2.len
  obtain ⟨mn, hmn⟩ : ∃ mn, min V.length V2.length = mn := ⟨_, rfl⟩
  have hm1 : mn ≤ V.length := by omega
  have hm2 : mn ≤ V2.length := by omega
  have hmi : min (V.length : Int) (V2.length : Int) = (mn : Int) := by omega
  have HM := Lib.hid hmn
  clear hmn
  go_enter Tryz.func87, Tryz.ntmps87
  go_wp2_with fail
  go_loopw [12] (fun i wr => ∃ q : Nat, i = .int .i64 (q : Int) ∧ q ≤ mn ∧ Hid (cmpLs (L.drop q) (M.drop q) = cmpLs L M) ∧ Kp w wr) (fun i _ => mn - (intOf i).toNat)
  case atStart => exact ⟨0, rfl, by omega, Lib.hid (by simp), inferInstance⟩
  case round =>
    obtain ⟨q, rfl, hq, hE, i1⟩ := hrel
    have kw := Kp1.mk i1.out
    have hres := hr.out
    by_cases hlt : q < mn
    · have hltm : (q : Int) < (mn : Int) := by omega
      have hltv : q < V.length := by omega
      have hlt' : (q : Int) < V.length := by omega
      have hlt2 : q < V2.length := by omega
      have hlt2' : (q : Int) < V2.length := by omega
      have lq : LtN q V.length := ⟨by omega⟩
      have lq2 : LtN q V2.length := ⟨hlt2⟩
      have ew : IntKind.i64.wrap ((q : Int) + 1) = (q : Int) + 1 := wr_in (by omega) (by omega)
      obtain ⟨g, rfl, hA⟩ := hs.form (by omega)
      obtain ⟨g2, rfl, hA2⟩ := hs2.form (by omega)
      have hl1 : q < L.length := by rw [← hlen.out]; omega
      have hl2 : q < M.length := by rw [← hlen2.out]; omega
      obtain ⟨v, hv0⟩ : ∃ v, cmpP (pg L q) (pg M q) = v := ⟨_, rfl⟩
      have HV : Hid (cmpP ((pg L q).1, (pg L q).2) ((pg M q).1, (pg M q).2) = v) := Lib.hid hv0
      have HL1 := Lib.hid hl1
      have HL2 := Lib.hid hl2
      have HV0 := Lib.hid hv0
      clear hv0 hl1 hl2
      by_cases hz : v = 0
      · have hz1 : (v != 0) = false := by simp [hz]
        go_wp2_with fail
        refine rgn [] [] fun hHeld => ?_
        refine tk 0 hHeld ?_
        refine tk 1 hHeld ?_
        refine tk 2 hHeld ?_
        refine tk 3 hHeld ?_
        refine tk 4 hHeld ?_
        refine tk 5 hHeld ?_
        refine tk 6 hHeld ?_
        refine tk 7 hHeld ?_
        refine st 8 fun K hK => ?_
        go_simp
        (with_reducible refine Calls.cE (ptCmpV (by omega) HV) ?_); intros
        refine hd hK ?_
        clear hHeld hK K
        intro hHeld
        refine tk 9 hHeld ?_
        refine dn ?_
        clear hHeld
        go_wp2
        go_roundw
        case rel => exact ⟨q + 1, by go_num, by omega, Lib.hid (by rw [← hE.out]; exact (cmpLs_step HL1.out HL2.out (by rw [HV0.out]; exact hz)).symm), inferInstance⟩
        case measure => simp [intOf]; omega
      · have hz1 : (v != 0) = true := by simp [hz]
        have HR : Hid (v = res) := Lib.hid (by
          have h2 := cmpLs_ne HL1.out HL2.out (by rw [HV0.out]; exact hz)
          rw [← hE.out, h2, HV0.out] at hres
          exact hres)
        go_wp2_with fail
        refine rgn [] [] fun hHeld => ?_
        refine tk 0 hHeld ?_
        refine tk 1 hHeld ?_
        refine tk 2 hHeld ?_
        refine tk 3 hHeld ?_
        refine tk 4 hHeld ?_
        refine tk 5 hHeld ?_
        refine tk 6 hHeld ?_
        refine tk 7 hHeld ?_
        refine st 8 fun K hK => ?_
        go_simp
        (with_reducible refine Calls.cE (ptCmpV (by omega) HV) ?_); intros
        refine hd hK ?_
        clear hHeld hK K
        intro hHeld
        refine tk 9 hHeld ?_
        refine dn ?_
        clear hHeld
        go_wp2
        go_ret
        exact E.fin (by first | rfl | (rw [HR.out]; rfl) | rw [HR.out])
    · obtain rfl : q = mn := by omega
      have h9 := cmpLs_end (L := L) (M := M) (i := q) (by have := HM.out; have := hlen.out; have := hlen2.out; omega) (by have := hlen.out; have := hlen2.out; omega)
      rw [hE.out, hres, ← hlen.out, ← hlen2.out] at h9
      rcases Nat.lt_trichotomy V.length V2.length with h | h | h
      · rw [if_pos h] at h9
        have h' : (V.length : Int) < V2.length := by omega
        clear hE hres
        subst h9
        go_wp2_with fail
        go_ret
        exact E.fin rfl
      · rw [if_neg (by omega), if_neg (by omega)] at h9
        have h1 : ¬ ((V.length : Int) < V2.length) := by omega
        have h2 : ¬ ((V2.length : Int) < V.length) := by omega
        have h3 : ¬ (V.length < V2.length) := by omega
        have h4 : ¬ (V2.length < V.length) := by omega
        clear hE hres h
        subst h9
        go_wp2_with fail
        go_ret
        exact E.fin rfl
      · rw [if_neg (by omega), if_pos h] at h9
        have h1 : ¬ ((V.length : Int) < V2.length) := by omega
        have h2 : ((V2.length : Int) < V.length) := by omega
        have h3 : ¬ (V.length < V2.length) := by omega
        clear hE hres
        subst h9
        go_wp2_with fail
        go_ret
        exact E.fin rfl
end Go.Proofs.YtdlnoeegboapkaaGreatDoor

/- The edges of a ring: an iterator's contract, and a range over them whose variable lies in a box. printed by a small program (mkrg3.py). -/
namespace Go.Proofs.YtdlnoeegboapkaaGreatDoor
open Go.RowKit
set_option maxRecDepth 100000
set_option maxHeartbeats 40000000
set_option synthInstance.maxSize 100000
set_option synthInstance.maxHeartbeats 1000000
open Go.Shelf
set_option maxRecDepth 100000
set_option maxHeartbeats 40000000
set_option synthInstance.maxSize 100000
set_option synthInstance.maxHeartbeats 1000000

attribute [local go_sem] Oper.semAt_some
theorem nmreg {F : Fence} {n : Nat} {P : Program} {id : Nat} {ops : Array Oper} {Q : Exit → Act → World → Prop} {a : Act} {W : World} (R : World → Prop) (h : R W) (k : ∀ W1, R W1 → (Code.region id ops true).wpIn F n P Q a W1) : (Code.region id ops true).wpIn F n P Q a W := k W h
/-- The edge i, as yield is handed it. -/
def edL (V : List FV) (i : Nat) : List Value := [.int .i64 (fv V i).nx, .int .i64 (fv V i).dx, .pointer (fv V i).px, .int .i64 (fv V i).ny, .int .i64 (fv V i).dy, .pointer (fv V i).py,
  .int .i64 (fv V ((i + 1) % V.length)).nx, .int .i64 (fv V ((i + 1) % V.length)).dx, .pointer (fv V ((i + 1) % V.length)).px, .int .i64 (fv V ((i + 1) % V.length)).ny, .int .i64 (fv V ((i + 1) % V.length)).dy, .pointer (fv V ((i + 1) % V.length)).py]
def encE (V : List FV) (i : Fin V.length) : Array Value := #[.int .i64 ((i.val : Nat) : Int), .agg (edL V i.val).toArray]
theorem upto_succ {n q : Nat} (h : q < n) : (List.finRange n).take (q + 1) = (List.finRange n).take q ++ [⟨q, h⟩] := by
  rw [List.take_succ_eq_append_getElem (by simpa using h)]
  simp
theorem edges1_in (n : Nat) (hn : 1 ≤ n) (l Br n₀ g c : Nat) (V : List FV) (hV : V.length ≤ 1000000) (hg : g < n₀) (hBr : Br < n₀) (J Jx : List (Fin V.length) → World → Prop) (W : World) (hn₀ : n₀ ≤ W.heap.size) (hJ : AbidesFrom W.heap.size J)
    (hY : ∀ pre x W1, J pre W1 → pre.length < V.length → YieldAt Fence.wide (n - 1) Tryz.prog l (encE V x) W1 fun e W' =>
      (e = .returned (.bool true) ∧ J (pre ++ [x]) W' ∧ Below n₀ W1 W') ∨ (e = .returned (.bool false) ∧ Jx (pre ++ [x]) W'))
    [hB : Bx W Br 131 [.slice (some ⟨g, 0, none⟩) V.length c]] {w0 : World} [hA : At W g (rowF V) w0] (h0 : J [] W) :
    CallsIn Fence.wide n Tryz.prog 202 #[.func (.yield l) #[] #[], .pointer (some ⟨Br, 0, none⟩)] W fun e W' => (∃ v, e = .returned v) ∧
      ((∃ ys, ys = List.finRange V.length ∧ J ys W') ∨ (∃ pre, pre <+: List.finRange V.length ∧ Jx pre W')) := by
  have hmx : Tryz.prog.follows .mixedOrders = true := by kernel_rfl
  refine callsIn_of_wp Tryz.func202 rfl trivial ?_ rfl
  simp only [Tryz.ntmps202, List.size_toArray, List.length_cons, List.length_nil, Nat.reduceAdd, Nat.reduceSub, Array.replicate_succ, Array.replicate_zero, List.push_toArray, List.append_toArray, List.nil_append, List.cons_append]
  gi_wp2
  gi_loopw [7] (fun i wr => ∃ q : Nat, q ≤ V.length ∧ i = .int .i64 (q : Int) ∧ J ((List.finRange V.length).take q) wr ∧ Below n₀ W wr) (fun i _ => V.length - (intOf i).toNat)
  case atStart => exact ⟨0, Nat.zero_le _, rfl, by simpa using h0, Below.refl _ _⟩
  case round =>
    obtain ⟨q, hq, rfl, hJs, hnx⟩ := hrel
    by_cases hlt : q < V.length
    · have hlt' : (q : Int) < V.length := by omega
      have i1 : Bx wr Br 131 [.slice (some ⟨g, 0, none⟩) V.length c] := ⟨(hnx.block Br hBr).trans hB.out⟩
      have i2 : At wr g (rowF V) wr := ⟨fun j u hu => (hnx.cell (p := ⟨g, j, none⟩) hg).trans (hA.out j u hu), Nat.lt_of_lt_of_le (Nat.lt_of_lt_of_le hg hn₀) hnx.size, Nat.lt_of_lt_of_le (Nat.lt_of_lt_of_le hg hn₀) hnx.size⟩
      have ew : IntKind.i64.wrap ((q : Int) + 1) = (q : Int) + 1 := wr_in (by omega) (by omega)
      obtain ⟨m, hm0⟩ : ∃ m, (q + 1) % V.length = m := ⟨_, rfl⟩
      have hm : m < V.length := by rw [← hm0]; exact Nat.mod_lt _ (by omega)
      have hm' : (m : Int) < V.length := by omega
      have er : ((q : Int) + 1).tmod (V.length : Int) = (m : Int) := by
        rw [← hm0, show (q : Int) + 1 = ((q + 1 : Nat) : Int) by omega]; exact (Int.ofNat_tmod _ _).symm
      have HM := Lib.hid hm0
      clear hm0
      have hz : ¬ ((V.length : Int) = 0) := by omega
      have hz2 : ¬ (V.length = 0) := by omega
      have hz3 : V ≠ [] := fun e => by rw [e] at hlt; simp at hlt
      gi_wp2
      refine nmreg (fun W4 => Kp wr W4 ∧ Bx W4 wr.heap.size 152 (fv V q).l ∧ Bx W4 Br 131 [.slice (some ⟨g, 0, none⟩) V.length c] ∧ At W4 g (rowF V) wr) ⟨inferInstance, Bx.re rfl, inferInstance, inferInstance⟩ ?_
      intro W4 ⟨k1, k2, k3, k4⟩
      have hJ4 := hJ _ _ W4.drew none hJs (below_gb (inferInstance : Kp wr W4.drew).out) (fun r e => by cases e)
      obtain ⟨fn, tmps, assign, body, hy, hR⟩ := hY _ ⟨q, hlt⟩ _ hJ4 (by simp; omega)
      have hR' := hR.mono (R' := fun e W' => ∃ b : Bool, e = .returned (.bool b) ∧ (b = true → J ((List.finRange V.length).take (q + 1)) W' ∧ Below n₀ W4.drew W') ∧ (b = false → Jx ((List.finRange V.length).take (q + 1)) W')) (by
        rintro e W' (⟨h1, h2, h3⟩ | ⟨h1, h2⟩)
        · exact ⟨true, h1, fun _ => ⟨(by rw [upto_succ hlt]; exact h2), h3⟩, fun h => (by cases h)⟩
        · exact ⟨false, h1, fun h => (by cases h), fun _ => (by rw [upto_succ hlt]; exact h2)⟩)
      clear hR
      dsimp only [encE, edL] at hy
      rw [HM.out] at hy
      simp only [FV.l] at k2
      clear hY hJ
      gi_region_with_o (refine hR'.mono ?_; rintro e W5 ⟨b, rfl, hb1, hb2⟩)
      all_goals
        cases b with
        | true =>
          obtain ⟨hJ5, hk5⟩ := hb1 rfl
          have hk6 : Below n₀ wr W5 := ((inferInstance : Kp wr W4.drew).out.mono (Nat.le_trans hn₀ hnx.size)).trans hk5
          gi_wp2
          go_roundw
          case rel => exact ⟨q + 1, by omega, by go_num, hJ5, hnx.trans hk6⟩
          case measure => simp [intOf]; omega
        | false =>
          have hx5 := hb2 rfl
          gi_wp2
          refine bodyPost_ret (results_none rfl _ _ _) rfl ?_
          exact ⟨⟨_, rfl⟩, .inr ⟨_, List.take_prefix _ _, hx5⟩⟩
    · obtain rfl : q = V.length := by omega
      gi_wp2
      go_end0
      exact ⟨⟨_, rfl⟩, .inl ⟨_, rfl, by rw [List.take_of_length_le (by simp)] at hJs; exact hJs⟩⟩
theorem edgesC {w : World} {a : Option Addr} {n c : Nat} : Calls Tryz.prog 145 #[.slice a n c] w fun e w' => e = .returned (.func (.func 202) #[] #[.pointer (some ⟨w.heap.size, 0, none⟩)]) ∧ w' = w.alloc (.cells #[.slice a n c] 131) := by
  go_enter Tryz.func145, Tryz.ntmps145
  go_wp2
  go_ret
  exact ⟨rfl, rfl⟩
theorem Calls.cEdges {P : Program} {f : FuncId} {args : Array Value} {w : World} {fe : Nat} {t : TypeId} {v : Value} {K : Ending → World → Prop} (h : Calls P f args w fun e w' => e = .returned (.func (.func fe) #[] #[.pointer (some ⟨w.heap.size, 0, none⟩)]) ∧ w' = w.alloc (.cells #[v] t))
    (hK : ∀ w' [Kp1 w w'] (b : Nat) [Bx w' b t [v]], K (.returned (.func (.func fe) #[] #[.pointer (some ⟨b, 0, none⟩)])) w') : Calls P f args w K := by
  refine h.mono ?_
  rintro e w' ⟨rfl, rfl⟩
  exact @hK _ ⟨blw_one _ _⟩ _ (inferInstance : Bx (w.alloc (.cells [v].toArray t (0, 0))) w.heap.size t [v])
theorem edges_stops (n : Nat) (hn : 1 ≤ n) (Br g c : Nat) (V : List FV) (hV : V.length ≤ 1000000) (w : World) {w0 : World} [hB : Bx w Br 131 [.slice (some ⟨g, 0, none⟩) V.length c]] [hA : At w g (rowF V) w0] :
    SeqStopsK Fence.wide n Tryz.prog 202 #[.pointer (some ⟨Br, 0, none⟩)] (encE V) (Below w.heap.size) (fun ys => ys = List.finRange V.length) (fun pre => pre <+: List.finRange V.length) V.length w := fun l J Jx W hW hJ _ hY h0 => by
  have kW : Kp1 w W := ⟨hW⟩
  exact edges1_in n hn l Br w.heap.size g c V hV hA.ltW hB.lt J Jx W hW.size hJ hY h0
/-- A range over the edges, whose variable lies in a box: the frame of a round is that at its beginning, with the slots pi and pe set, and i and e behind them. -/
theorem range_edges {n : Nat} {Q : Exit → Act → World → Prop} {w w0 : World} {go_ : Operand} {ps : Array Tmp} {assign body : Code} {Ts : Array Value} {Br g c : Nat} {V : List FV} (hn : 3 ≤ n) (hg : Act.eval { tmps := Ts, defers := [] } go_ = .func (.func 202) #[] #[.pointer (some ⟨Br, 0, none⟩)]) (hV : V.length ≤ 1000000)
    [hB : Bx w Br 131 [.slice (some ⟨g, 0, none⟩) V.length c]] [hA : At w g (rowF V) w0] (hps : ps.size = 2) (upd : Array Value → Fin V.length → Nat → Array Value)
    (I : List (Fin V.length) → World → Prop) (Ix : Code → List (Fin V.length) → World → Prop) (hI : OwnFrom w.heap.size I) (hIx : ∀ c, OwnFrom w.heap.size (Ix c)) (h0 : I [] w)
    (hassign : ∀ (l : Nat) (pre : List (Fin V.length)) (x : Fin V.length) (W : World) (K : Act → World → Prop), I pre W → (∀ W' b, W.heap.size = b → Kp W W' → Bx W' b 238 (edL V x.val) → K { tmps := upd Ts x b, defers := [] } W') →
      assign.wpIn (Fence.wide.inRound l) (n - 1 - 1) Tryz.prog (Exit.then K (fun _ _ _ => False)) { tmps := (ps.zip (encE V x)).foldl (fun t (p, v) => t.setIfInBounds p v) Ts, defers := [] } W)
    (hIb : ∀ pre W W', I pre W → Kp W W' → I pre W') (hIs : ∀ pre W, I pre W → w.heap.size ≤ W.heap.size)
    (hbody : ∀ (l : Nat) (pre : List (Fin V.length)) (x : Fin V.length) (b : Nat) (W : World), I pre W → w.heap.size ≤ b → Bx W b 238 (edL V x.val) → pre.length < V.length → body.wpIn (Fence.wide.inRound l) (n - 1 - 1) Tryz.prog (ownPostG w.heap.size (Below w.heap.size) I Ix (pre ++ [x]) W) { tmps := upd Ts x b, defers := [] } W)
    (hdone : ∀ (D : Nat) (W : World), w.heap.size ≤ D → I (List.finRange V.length) W → W.heap[D]? = some (.deferred (some [])) → Q .normal { tmps := Ts, defers := [{ target := .collected D, args := #[] }] } W)
    (hstop : ∀ (D : Nat) (c : Code) (pre : List (Fin V.length)) (W : World), w.heap.size ≤ D → pre <+: List.finRange V.length → Ix c pre W → W.heap[D]? = some (.deferred (some [])) → c.wpIn Fence.wide n Tryz.prog Q { tmps := Ts, defers := [{ target := .collected D, args := #[] }] } W) :
    (Code.rangeFunc go_ ps assign body).wp Tryz.prog Q { tmps := Ts, defers := [] } w := by
  refine (wpIn_wide (n := n)).1 ?_
  refine wpIn_rangeFunc_ownH rfl (by omega) hg trivial (enters_of Tryz.func202 (by kernel_rfl) rfl) (edges_stops (n - 1) (by omega) Br g c V hV w (w0 := w0)) belowK_t (belowK_b (Nat.le_refl _)) (Below.refl _ _) (fun _ => by rw [hps]; rfl)
    I Ix hI hIx h0 (fun x a' W => ∃ b, w.heap.size ≤ b ∧ Bx W b 238 (edL V x.val) ∧ a' = { tmps := upd Ts x b, defers := [] }) ?_ ?_ ?_ ?_ ?_
  · intro x a' s A B row ⟨b, h1, h2, h3⟩ hgr hr
    refine ⟨b, h1, ⟨?_⟩, h3⟩
    rw [hgr.block b h2.lt (fun e => ?_)]
    · exact h2.out
    · obtain ⟨_, o, ho, hc⟩ := hr b e.symm
      rw [h2.out] at ho
      cases ho
      cases hc
  · intro l pre x W K hi hK
    refine hassign l pre x W K hi (fun W' b hb hk hx => ?_)
    have hs := hIs _ _ hi
    exact hK _ _ ((KeepsOthers.of_grownBy (row := none) (below_gb hk.out) (fun j o e => by cases e)).from _) (hk.out.mono hs) (hIb _ _ _ hi hk) ⟨b, by omega, hx, rfl⟩
  · rintro l pre x a' W _ _ hi ⟨b, h1, h2, rfl⟩ hlt
    exact hbody l pre x b W hi h1 h2 hlt
  · rintro D xs W hD rfl hi hK
    exact hdone D W hD hi hK
  · exact hstop
end Go.Proofs.YtdlnoeegboapkaaGreatDoor
