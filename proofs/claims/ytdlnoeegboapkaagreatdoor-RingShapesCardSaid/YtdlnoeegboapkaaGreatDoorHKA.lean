/-
  Texts of this claim, joined: Ap, Rg7, Rg9.
-/
import Derived.Test.YtdlnoeegboapkaaGreatDoorCI
import Derived.Test.YtdlnoeegboapkaaGreatDoorCJ
namespace Go.Proofs.YtdlnoeegboapkaaGreatDoor
open Go.RowKit
set_option linter.unusedSimpArgs false
set_option linter.unusedVariables false
set_option maxHeartbeats 40000000
set_option maxRecDepth 100000
set_option synthInstance.maxHeartbeats 1000000
set_option synthInstance.maxSize 100000
section
instance (priority := low) Ex.d0 {W0 W : World} {L : List Nat} [h : Ex W0 L W] : Ex W0.drew L W := ⟨h.size, h.block⟩
theorem add_off (g o j : Nat) : (⟨g, o, none⟩ : Addr).add j = ⟨g, o + j, none⟩ := by unfold Addr.add; split <;> simp_all
theorem run_app_full {P : Program} (w : World) (t ty e : TypeId) (i : TypeInfo) (z : Value) (ht : P.underlying t = some (.slice e)) (hi : P.info? e = some i) (hz : i.zero = some z) (hzs : z.cells.size = i.size)
    {v : Value} {n : Nat} {xs : List Value} (hv : (v = .slice none 0 0 ∧ n = 0) ∨ ∃ a, v = .slice (some a) n n ∧ ∀ j u, xs[j]? = some u → w.cell? (a.add j) = some u) (hx : xs.length = n * i.size)
    (a : Addr) (m c : Nat) (news : List Value) (hl : news.length = m * i.size) (hnews : ∀ j u, news[j]? = some u → w.cell? (a.add j) = some u) (h0 : 0 < m) (h63 : n + m ≤ maxLen) (hbytes : (n + m) * i.bytes ≤ 140737488355328) :
    ∃ c' w', (Builtin.append_ #[t, t] ty #[v, .slice (some a) m c]).run P w = .ok (.slice (some ⟨w.heap.size, 0, none⟩) (n + m) c') w' ∧ w'.ownsRow w.heap.size e i.size (.slice (some ⟨w.heap.size, 0, none⟩) (n + m) c') (n + m) (xs ++ news) ∧ Below w.heap.size w w' ∧
      w'.heap[w.heap.size]? = some (.cells ((xs ++ news).toArray ++ Builtin.zeroCells z.cells (c' - (n + m))) e) := by
  have hsmall : n + m ≤ 9223372036854775807 := by simp only [maxLen] at h63; omega
  have hlen : (xs ++ news).length = (n + m) * i.size := by rw [List.length_append, hx, hl, Nat.add_mul]
  have grown : ∀ (old : Nat), old < n + m →
      (w.drew.alloc (.cells ((xs ++ news).toArray ++ Builtin.zeroCells z.cells (grownCap w (n + m) old e - (n + m))) e)).ownsRow w.heap.size e i.size
        (.slice (some ⟨w.heap.size, 0, none⟩) (n + m) (grownCap w (n + m) old e)) (n + m) (xs ++ news) := by
    intro old ho
    have hge := grownCap_ge w (n + m) old e
    have hcm : grownCap w (n + m) old e ≤ maxLen := grownCap_le_maxLen w (n + m) old e h63
    refine ⟨hlen, .inr ⟨w.heap.size, _, _, rfl, Nat.le_refl _, heap_alloc_new w.drew _, hge, hcm, ?_, ?_⟩⟩
    · simp only [Array.size_append, List.size_toArray, size_zeroCells, hzs, hlen, ← Nat.add_mul]
      congr 1
      omega
    · simp only [Array.toList_append]; rw [← hlen]; exact List.take_left
  have bel : ∀ o, Below w.heap.size w (w.drew.alloc o) := fun o => blw_alloc (blw_drew (Below.refl _ _)) o
  rcases hv with ⟨rfl, rfl⟩ | ⟨b, rfl, hc⟩
  · have hx0 : xs = [] := List.eq_nil_of_length_eq_zero (by simpa using hx)
    subst hx0
    have hr := run_append_nil (P := P) w t ty e i z ht hi hz a m c news hl hnews h0 (by omega) (by have hb := hbytes; simp only [Nat.zero_add] at hb; omega)
    have hg := grown 0 (by omega)
    simp only [Nat.zero_add, List.nil_append] at hg ⊢; exact ⟨_, _, hr, hg, bel _, heap_alloc_new w.drew _⟩
  · have hr := run_append_grow (P := P) w t ty e i z ht hi hz b n n xs hx hc a m c news hl hnews (by omega) (by omega) (growslice_fits (by omega) hbytes)
    have e1 : xs.toArray ++ news.toArray = (xs ++ news).toArray := by simp
    rw [e1] at hr; exact ⟨_, _, hr, grown n (by omega), bel _, heap_alloc_new w.drew _⟩
theorem run_app_none {P : Program} (w : World) (t ty e : TypeId) (i : TypeInfo) (ht : P.underlying t = some (.slice e)) (hi : P.info? e = some i) (b : Addr) (n cap : Nat) (hn : n ≤ cap) {x : Value} (hx : (∃ c, x = .slice none 0 c) ∨ ∃ a c, x = .slice (some a) 0 c) :
    (Builtin.append_ #[t, t] ty #[.slice (some b) n cap, x]).run P w = .ok (.slice (some b) n cap) w := by
  rcases hx with ⟨c, rfl⟩ | ⟨a, c, rfl⟩
  · simp [Builtin.append_, run_underlying ht, sizeOf, typeInfo, hi, Builtin.lenOf, Builtin.firstCells, loadCells, loadCellsFrom, hn, storeCells]
  · simp [Builtin.append_, run_underlying ht, sizeOf, typeInfo, hi, Builtin.lenOf, Builtin.firstCells, loadCells, loadCellsFrom, hn, storeCells]
theorem soft_full {w' : World} {g : Nat} {l : List Value} {z : Array Value} {k : Nat} {e : TypeId} (he : BoxT e) (hl : ∀ u ∈ l, isDigit32 u = false) (hz : ∀ u ∈ z.toList, isDigit32 u = false) (h : w'.heap[g]? = some (.cells (l.toArray ++ Builtin.zeroCells z k) e)) : SoftB w' g := by
  refine ⟨e, l ++ (Builtin.zeroCells z k).toList, ?_, he, ?_⟩
  · rw [h]
    congr 2
    apply Array.ext'
    simp
  · intro u hu
    rcases List.mem_append.1 hu with h | h
    · exact hl u h
    · unfold Builtin.zeroCells at h
      simp only [Array.toList_map, List.mem_map, Array.toList_range, List.mem_range] at h; obtain ⟨i, hi, rfl⟩ := h
      have hp : 0 < z.size := by
        rcases Nat.eq_zero_or_pos z.size with e | e
        · rw [e] at hi; omega
        · exact e
      rw [getElem!_pos z (i % z.size) (Nat.mod_lt i hp)]; exact hz _ (by simp)
section
variable {W w0 : World} {o : Oper} {a : Act} {K : Act → World → Prop} {Q : Exit → Act → World → Prop}
theorem appO_full (s x : Operand) (t : TypeId) (hop : o.op = .call { callee := .builtin .append, args := #[s, x], argTypes := #[t, t] }) {e : TypeId} (ht : Tryz.prog.underlying t = some (.slice e)) {z : Value} {sz bt : Nat}
    (hi : (Tryz.prog.info? e).map (fun i => (i.zero, i.size, i.bytes)) = some (some z, sz, bt)) (hzs : z.cells.size = sz) (hbt : bt ≤ 1000) (hz0 : ∀ u ∈ z.cells.toList, isDigit32 u = false) (he : BoxT e) {v : Value} {n : Nat} {xs : List Value} (hs : a.eval s = v)
    (hv : (v = .slice none 0 0 ∧ n = 0) ∨ ∃ b, v = .slice (some b) n n ∧ ∀ j u, xs[j]? = some u → W.cell? (b.add j) = some u) (hxl : xs.length = n * sz) (hnx : ∀ u ∈ xs, isDigit32 u = false)
    {ad : Addr} {m c : Nat} {l : List Value} (hx : a.eval x = .slice (some ad) m c) (hb : ∀ j u, l[j]? = some u → W.cell? (ad.add j) = some u) (hl : l.length = m * sz) (hnl : ∀ u ∈ l, isDigit32 u = false) (hm : 0 < m) (hn : n + m ≤ 1000000)
    (hK : ∀ g c' W' [Kp1 W W'] [Rn W' (.slice (some ⟨g, 0, none⟩) (n + m) c') e sz (n + m) (xs ++ l) W.heap.size W'], K (a.put o.dst (.slice (some ⟨g, 0, none⟩) (n + m) c')) W') :
    Oper.wp Tryz.prog o a W K Q := by
  obtain ⟨i0, hi0⟩ : ∃ i0, Tryz.prog.info? e = some i0 := by
    cases h : Tryz.prog.info? e with
    | none => rw [h] at hi; cases hi
    | some i0 => exact ⟨i0, rfl⟩
  rw [hi0] at hi; simp only [Option.map_some, Option.some.injEq, Prod.mk.injEq] at hi; obtain ⟨hz, rfl, rfl⟩ := hi
  have hby : (n + m) * i0.bytes ≤ 140737488355328 := by
    have : (n + m) * i0.bytes ≤ 1000000 * 1000 := Nat.mul_le_mul hn hbt
    omega
  obtain ⟨c', w', hrun, h2, h3, h4⟩ := run_app_full (P := Tryz.prog) W t o.type e i0 z ht hi0 hz hzs hv hxl ad m c l hl hb hm (by unfold maxLen; omega) hby
  unfold Oper.wp execOp
  simp only [hop, resolve, invoke, builtin, Sem.run_bind, Sem.run_pure, Result.andThen_ok, List.map_toArray, List.map_cons, List.map_nil, hs, hx, hrun]
  have i1 : Kp1 W w' := ⟨h3⟩
  have i2 : Rn w' (.slice (some ⟨W.heap.size, 0, none⟩) (n + m) c') e i0.size (n + m) (xs ++ l) W.heap.size w' := ⟨Rw.mk1 h2 h3.size, fun g eg => by
    simp only [Value.ownBlock, Option.some.injEq] at eg; subst eg
    exact soft_full he (fun u hu => (List.mem_append.1 hu).elim (hnx u) (hnl u)) hz0 h4⟩
  exact @hK _ c' w' i1 i2
theorem appO_none (s x : Operand) (t : TypeId) (hop : o.op = .call { callee := .builtin .append, args := #[s, x], argTypes := #[t, t] }) {e : TypeId} (ht : Tryz.prog.underlying t = some (.slice e)) {z : Value} {sz bt : Nat}
    (hi : (Tryz.prog.info? e).map (fun i => (i.zero, i.size, i.bytes)) = some (some z, sz, bt)) {b : Addr} {n cap : Nat} (hs : a.eval s = .slice (some b) n cap) (hn : n ≤ cap) {y : Value} (hx : a.eval x = y) (hy : (∃ c, y = .slice none 0 c) ∨ ∃ a c, y = .slice (some a) 0 c)
    (hK : K (a.put o.dst (.slice (some b) n cap)) W) : Oper.wp Tryz.prog o a W K Q := by
  obtain ⟨i0, hi0⟩ : ∃ i0, Tryz.prog.info? e = some i0 := by
    cases h : Tryz.prog.info? e with
    | none => rw [h] at hi; cases hi
    | some i0 => exact ⟨i0, rfl⟩
  have hrun := run_app_none (P := Tryz.prog) W t o.type e i0 ht hi0 b n cap hn hy
  unfold Oper.wp execOp
  simp only [hop, resolve, invoke, builtin, Sem.run_bind, Sem.run_pure, Result.andThen_ok, List.map_toArray, List.map_cons, List.map_nil, hs, hx, hrun]; exact hK
end
end
section
theorem Rn.cap {W w0 : World} {a : Option Addr} {e : TypeId} {sz n c n' base : Nat} {xs : List Value} (h : Rn W (.slice a n' c) e sz n xs base w0) : n ≤ c ∧ c ≤ maxLen := by
  rcases h.rw'.out.2 with ⟨e1, e2⟩ | ⟨g, cap, cur, e1, _, _, h3, h4, _⟩
  · subst e2; exact ⟨Nat.zero_le _, by injection e1 with _ _ e3; rw [e3]; exact Nat.zero_le _⟩
  · injection e1 with _ _ e3; subst e3; exact ⟨h3, h4⟩
def LenRet (w : World) (m : Nat) (e : Ending) (w' : World) : Prop := ∃ (a : Option Addr) (c : Nat), e = .returned (.slice a m c) ∧ Below w.heap.size w w'
theorem Calls.cLen {P : Program} {f : FuncId} {args : Array Value} {w : World} {m : Nat} {K : Ending → World → Prop} (h : Calls P f args w (LenRet w m))
    (hK : ∀ w' [Kp1 w w'] (a : Option Addr) (c : Nat), K (.returned (.slice a m c)) w') : Calls P f args w K := by
  refine h.mono ?_
  rintro e w' ⟨a, c, rfl, hb⟩
  exact @hK w' ⟨hb⟩ a c
theorem PsQ.ins {W : World} {V : List AV} {L : List (Rat × Rat)} {k p : Nat} {e : AV} {x y : Rat} (h : PsQ W V L k) (hp : p ≤ V.length) (hx : CQ W (.agg #[.bool e.gx, .slice e.ax e.lx e.cx, .slice e.aax e.llx e.ccx]) x k) (hy : CQ W (.agg #[.bool e.gy, .slice e.ay e.ly e.cy, .slice e.aay e.lly e.ccy]) y k) :
    PsQ W (V.take p ++ e :: V.drop p) (insP L p (x, y)) k := by
  have hl := h.len
  have hlen : (V.take p ++ e :: V.drop p).length = V.length + 1 := by simp; omega
  have key : ∀ i, i < V.length + 1 → (i < p ∧ av (V.take p ++ e :: V.drop p) i = av V i ∧ pg (insP L p (x, y)) i = pg L i) ∨ (i = p ∧ av (V.take p ++ e :: V.drop p) i = e ∧ pg (insP L p (x, y)) i = (x, y)) ∨ (p < i ∧ av (V.take p ++ e :: V.drop p) i = av V (i - 1) ∧ pg (insP L p (x, y)) i = pg L (i - 1)) := by
    intro i hi
    have h2 : i < (insP L p (x, y)).length := by rw [insP_len (by omega)]; omega
    rcases Nat.lt_trichotomy i p with h1 | h1 | h1
    · refine .inl ⟨h1, ?_, ?_⟩
      · rw [av_get (by omega), av_get (by omega), List.getElem_append_left (by simp; omega), List.getElem_take]
      · rw [pg_get h2, pg_get (by omega)]; simp only [insP]; rw [List.getElem_append_left (by simp; omega), List.getElem_take]
    · subst h1
      refine .inr (.inl ⟨rfl, ?_, ?_⟩)
      · rw [av_get (by omega), List.getElem_append_right (by simp; omega)]; simp only [List.length_take, Nat.min_eq_left hp, Nat.sub_self, List.getElem_cons_zero]
      · rw [pg_get h2]; simp only [insP]; rw [List.getElem_append_right (by simp; omega)]; simp only [List.length_take, Nat.min_eq_left (show i ≤ L.length by omega), Nat.sub_self, List.getElem_cons_zero]
    · obtain ⟨j, rfl⟩ : ∃ j, i = p + 1 + j := ⟨i - (p + 1), by omega⟩
      refine .inr (.inr ⟨h1, ?_, ?_⟩)
      · rw [av_get (by omega), av_get (by omega), List.getElem_append_right (by simp; omega)]
        simp only [List.length_take, Nat.min_eq_left hp, show p + 1 + j - p = j + 1 by omega, List.getElem_cons_succ, List.getElem_drop, show p + 1 + j - 1 = p + j by omega]
      · rw [pg_get h2, pg_get (by omega)]; simp only [insP]; rw [List.getElem_append_right (by simp; omega)]
        simp only [List.length_take, Nat.min_eq_left (show p ≤ L.length by omega), show p + 1 + j - p = j + 1 by omega, List.getElem_cons_succ, List.getElem_drop, show p + 1 + j - 1 = p + j by omega]
  refine ⟨by rw [hlen, insP_len (by omega)]; omega, fun i hi => ?_, fun i hi => ?_⟩
  all_goals
    rw [hlen] at hi
    rcases key i hi with ⟨h1, h2, h3⟩ | ⟨h1, h2, h3⟩ | ⟨h1, h2, h3⟩
    · rw [h2, h3]; first | exact h.x i (by omega) | exact h.y i (by omega)
    · rw [h2, h3]; first | exact hx | exact hy
    · rw [h2, h3]; first | exact h.x (i - 1) (by omega) | exact h.y (i - 1) (by omega)
theorem rowA_drop (U : List AV) (p : Nat) : ∀ (j : Nat) (u : Value), (rowA (U.drop p))[j]? = some u → (rowA U)[p * 6 + j]? = some u := by
  induction U generalizing p with
  | nil => intro j u h; simp [rowA] at h
  | cons x U ih =>
    intro j u h
    cases p with
    | zero => simpa using h
    | succ p =>
      have h2 := ih p j u h
      have e : rowA (x :: U) = x.l ++ rowA U := by simp [rowA]
      rw [e, List.getElem?_append_right (by rw [AV.len]; omega), AV.len]
      rw [show (p + 1) * 6 + j - 6 = p * 6 + j by omega]
      exact h2
theorem rowA_take (U : List AV) (p : Nat) : ∀ (j : Nat) (u : Value), (rowA (U.take p))[j]? = some u → (rowA U)[j]? = some u := by
  intro j u h
  have e : rowA U = rowA (U.take p) ++ rowA (U.drop p) := by
    unfold rowA; rw [← List.flatMap_append, List.take_append_drop]
  have hl : j < (rowA (U.take p)).length := by
    rcases Nat.lt_or_ge j (rowA (U.take p)).length with h1 | h1
    · exact h1
    · rw [List.getElem?_eq_none h1] at h; cases h
  rw [e, List.getElem?_append_left hl]; exact h
theorem rowA_cons (x : AV) (U : List AV) : rowA (x :: U) = x.l ++ rowA U := by simp [rowA]
theorem rowA_app (U V : List AV) : rowA (U ++ V) = rowA U ++ rowA V := by simp [rowA]
theorem rowA_len (U : List AV) : (rowA U).length = U.length * 6 := flat_len AV.len U
theorem Rn.cases {W w0 : World} {a : Option Addr} {e : TypeId} {sz n c n' base : Nat} {xs : List Value} (h : Rn W (.slice a n' c) e sz n xs base w0) : (a = none ∧ n = 0 ∧ c = 0) ∨ ∃ g, a = some ⟨g, 0, none⟩ ∧ At W g xs w0 := by
  rcases h.rw'.out.2 with ⟨e1, e2⟩ | ⟨g, cap, cur, e1, _⟩
  · injection e1 with e3 _ e5; exact .inl ⟨e3, e2, e5⟩
  · injection e1 with e3 _ _
    subst e3; exact .inr ⟨g, rfl, h.at⟩
theorem Rn.low {W w0 : World} {v : Value} {e : TypeId} {sz n base b' : Nat} {xs : List Value} (h : Rn W v e sz n xs base w0) (hb : b' ≤ base) : Rn W v e sz n xs b' w0 :=
  ⟨⟨⟨h.rw'.out.1, by
    rcases h.rw'.out.2 with hn | ⟨g, cap, cur, e1, h2, rest⟩
    · exact .inl hn
    · exact .inr ⟨g, cap, cur, e1, Nat.le_trans hb h2, rest⟩⟩, h.rw'.lt, h.rw'.ltW, Nat.le_trans hb h.rw'.hb⟩, h.nd⟩
theorem LenRet.fin {w w' : World} {a : Option Addr} {m m' c : Nat} [k : Kp w w'] (e : m' = m) : LenRet w m (.returned (.slice a m' c)) w' := by subst e; exact ⟨a, c, rfl, k.out⟩
theorem refCompareV {w : World} {g1x g1y g2x g2y : Bool} {a1x aa1x a1y aa1y a2x aa2x a2y aa2y : Option Addr} {l1x c1x ll1x cc1x l1y c1y ll1y cc1y l2x c2x ll2x cc2x l2y c2y ll2y cc2y k1x k1y k2x k2y : Nat} {x1 y1 x2 y2 : Rat} [h1x : CQ w (.agg #[.bool g1x, .slice a1x l1x c1x, .slice aa1x ll1x cc1x]) x1 k1x] [h1y : CQ w (.agg #[.bool g1y, .slice a1y l1y c1y, .slice aa1y ll1y cc1y]) y1 k1y] [h2x : CQ w (.agg #[.bool g2x, .slice a2x l2x c2x, .slice aa2x ll2x cc2x]) x2 k2x] [h2y : CQ w (.agg #[.bool g2y, .slice a2y l2y c2y, .slice aa2y ll2y cc2y]) y2 k2y] (b : k1x ≤ 9000 ∧ k1y ≤ 9000 ∧ k2x ≤ 9000 ∧ k2y ≤ 9000) {v : Int} (hv : Hid (cmpP (x1, y1) (x2, y2) = v)) :
    Calls Tryz.prog 88 #[.agg #[.bool g1x, .slice a1x l1x c1x, .slice aa1x ll1x cc1x, .bool g1y, .slice a1y l1y c1y, .slice aa1y ll1y cc1y], .agg #[.bool g2x, .slice a2x l2x c2x, .slice aa2x ll2x cc2x, .bool g2y, .slice a2y l2y c2y, .slice aa2y ll2y cc2y]] w (fun e w' => e = .returned (.int .i64 v) ∧ Below w.heap.size w w') := by
  have h := hv.out
  subst h; exact refCompareC b
theorem sortedC {w w0 : World} {a : Option Addr} {n c : Nat} {V : List AV} {L : List (Rat × Rat)} {k : Nat} [hs : Sl w (.slice a n c) V.length (rowA V) w0] [hp : PsQ w V L k] (b : k ≤ 9000) (hV : V.length ≤ 1000) :
    Calls Tryz.prog 84 #[.slice a n c] w (LenRet w (dsc L L.length)) := by
  obtain rfl := hs.len; have hlen := Lib.hid hp.len; go_enter Tryz.func84, Tryz.ntmps84; go_wp2_with fail
  go_loopw [9, 3] (fun i o wr => ∃ (q : Nat) (U : List AV) (N : List (Rat × Rat)), i = .int .i64 (q : Int) ∧ q ≤ V.length ∧ Rn wr o 47 6 U.length (rowA U) w.heap.size wr ∧ PsQ wr U N k ∧ Hid (SortOf L q N) ∧ Kp w wr) (fun i _ _ => V.length - (intOf i).toNat)
  case atStart => exact ⟨0, [], [], rfl, by omega, Rn.nil (Nat.le_refl _), PsQ.nil, Lib.hid (SortOf.nil L), inferInstance⟩
  case round =>
    obtain ⟨q, U, N, rfl, hq, i1, i2, hN, i3⟩ := hrel; have kw := Kp1.mk i3.out
    have hNl : U.length ≤ 1000 := by
      have h1 := hN.out.len; have h2 := dsc_le L q; have h3 := i2.len; omega
    obtain ⟨a3, c3, rfl⟩ := i1.slice; obtain ⟨hc1, hc2⟩ := i1.cap; unfold maxLen at hc2
    by_cases hlt : q < V.length
    · obtain ⟨g, rfl, hA⟩ := hs.form (by omega); have hlt' : (q : Int) < V.length := (by omega); have lq : LtN q V.length := ⟨hlt⟩
      have ew : IntKind.i64.wrap ((q : Int) + 1) = (q : Int) + 1 := wr_in (by omega) (by omega)
      have HUl := Lib.hid i2.len; go_wp2_with fail
      go_loopw [6] (fun i wx => ∃ p : Nat, i = .int .i64 (p : Int) ∧ p ≤ U.length ∧ Hid (∀ j, j < p → cmpP (pg N j) (pg L q) < 0) ∧ Bx wx wr.heap.size 47 (av V q).l ∧ Kp wr wx) (fun i _ => U.length - (intOf i).toNat)
      case atStart => exact ⟨0, rfl, by omega, Lib.hid (fun j hj => by omega), Bx.re rfl, inferInstance⟩
      case round =>
        obtain ⟨p, rfl, hp, hpl, j1, j2⟩ := hrel; have kx := Kp1.mk j2.out; simp only [AV.l] at j1
        by_cases hpt : p < U.length
        · have hpt' : (p : Int) < U.length := by omega
          have lp : LtN p U.length := ⟨hpt⟩
          have ep : IntKind.i64.wrap ((p : Int) + 1) = (p : Int) + 1 := wr_in (by omega) (by omega)
          obtain ⟨g2, rfl, hA2⟩ := (Sl.ofRn (h := i1)).form (by omega); obtain ⟨v, hv⟩ : ∃ v, cmpP ((pg N p).1, (pg N p).2) ((pg L q).1, (pg L q).2) = v := ⟨_, rfl⟩; have HC := Lib.hid hv; clear hv
          by_cases hneg : v < 0
          · go_wp2_with fail; refine rgn [] [] fun hH => ?_; refine tk 0 hH ?_; refine tk 1 hH ?_; refine tk 2 hH ?_; refine tk 3 hH ?_; refine tk 4 hH ?_; refine tk 5 hH ?_; refine tk 6 hH ?_; refine tk 7 hH ?_; refine tk 8 hH ?_; refine tk 9 hH ?_; refine st 10 fun K hK => ?_; go_simp; (with_reducible refine Calls.cE (refCompareV (by omega) HC) ?_); intros; refine hd hK ?_; clear hH hK K; intro hH; refine tk 11 hH ?_; refine tk 12 hH ?_; refine dn ?_; clear hH; go_wp2
            go_roundw
            case rel => exact ⟨p + 1, by go_num, by omega, Lib.hid (fun j hj => by
                rcases Nat.lt_or_ge j p with h | h
                · exact hpl.out j h
                · have : j = p := by omega
                  subst this; have h2 : cmpP (pg N j) (pg L q) = v := HC.out; omega), inferInstance, inferInstance⟩
            case measure => simp [intOf]; omega
          · have hge : ¬ (v < 0) := hneg
            have hge2 : 0 ≤ v := (by omega); have hne : ¬ ((p : Int) = (U.length : Int)) := (by omega)
            have hne2 : ((p : Int) == (U.length : Int)) = false := beq_false_of_ne hne
            have hne3 : ¬ (p = U.length) := (by omega); have hpc : (p : Int) ≤ c3 := (by omega); have hUc : (U.length : Int) ≤ c3 := (by omega); have hcp : ¬ (c3 = p) := (by omega)
            by_cases hz : v = 0
            · have hz2 : (v == 0) = true := by simpa using hz
              have hz3 : (v != 0) = false := by simp [hz]
              go_wp2_with fail; refine rgn [] [] fun hH => ?_; refine tk 0 hH ?_; refine tk 1 hH ?_; refine tk 2 hH ?_; refine tk 3 hH ?_; refine tk 4 hH ?_; refine tk 5 hH ?_; refine tk 6 hH ?_; refine tk 7 hH ?_; refine tk 8 hH ?_; refine tk 9 hH ?_; refine st 10 fun K hK => ?_; go_simp; (with_reducible refine Calls.cE (refCompareV (by omega) HC) ?_); intros; refine hd hK ?_; clear hH hK K; intro hH; refine tk 11 hH ?_; refine tk 12 hH ?_; refine dn ?_; clear hH; go_wp2_with fail; refine rgn [] [] fun hH => ?_; refine tk 0 hH ?_; refine tk 1 hH ?_; refine tk 2 hH ?_; refine tk 3 hH ?_; refine tk 4 hH ?_; refine tk 5 hH ?_; refine tk 6 hH ?_; refine tk 7 hH ?_; refine tk 8 hH ?_; refine tk 9 hH ?_; refine st 10 fun K hK => ?_; go_simp; (with_reducible refine Calls.cE (refCompareV (by omega) HC) ?_); intros; refine hd hK ?_; clear hH hK K; intro hH; refine tk 11 hH ?_; refine tk 12 hH ?_; refine dn ?_; clear hH; go_wp2
              go_roundw
              case rel => exact ⟨q + 1, U, N, by go_num, by omega, Rn.cast2 inferInstance rfl rfl, inferInstance, Lib.hid (SortOf.old hN.out (by rw [← hlen.out]; omega) (i := p) (by have := HUl.out; omega) (by have h2 : cmpP (pg N p) (pg L q) = v := HC.out; omega) (by have h2 : cmpP (pg N p) (pg L q) = v := HC.out; omega)), inferInstance⟩
              case measure => simp [intOf]; omega
            · have hz2 : (v == 0) = false := by simpa using hz
              have hz3 : (v != 0) = true := by simp [hz]
              go_wp2_with fail; refine rgn [] [] fun hH => ?_; refine tk 0 hH ?_; refine tk 1 hH ?_; refine tk 2 hH ?_; refine tk 3 hH ?_; refine tk 4 hH ?_; refine tk 5 hH ?_; refine tk 6 hH ?_; refine tk 7 hH ?_; refine tk 8 hH ?_; refine tk 9 hH ?_; refine st 10 fun K hK => ?_; go_simp; (with_reducible refine Calls.cE (refCompareV (by omega) HC) ?_); intros; refine hd hK ?_; clear hH hK K; intro hH; refine tk 11 hH ?_; refine tk 12 hH ?_; refine dn ?_; clear hH; go_wp2_with fail; refine rgn [] [] fun hH => ?_; refine tk 0 hH ?_; refine tk 1 hH ?_; refine tk 2 hH ?_; refine tk 3 hH ?_; refine tk 4 hH ?_; refine tk 5 hH ?_; refine tk 6 hH ?_; refine tk 7 hH ?_; refine tk 8 hH ?_; refine tk 9 hH ?_; refine st 10 fun K hK => ?_; go_simp; (with_reducible refine Calls.cE (refCompareV (by omega) HC) ?_); intros; refine hd hK ?_; clear hH hK K; intro hH; refine tk 11 hH ?_; refine tk 12 hH ?_; refine dn ?_; clear hH; go_wp2_with fail; refine rgn [] [] fun hH => ?_; refine tk 0 hH ?_; refine tk 1 hH ?_; refine tk 2 hH ?_; refine tk 3 hH ?_; refine tk 4 hH ?_; refine tk 6 hH ?_; refine tk 7 hH ?_; refine tk 8 hH ?_; refine st 5 fun K hK => ?_; go_simp; refine hd hK ?_; clear hH hK K; intro hH; refine st 9 fun K hK => ?_; rw [if_pos (by rfl)]
              refine appO_full (.tmp 46) (.tmp 49) 61 rfl Tryz.underlying61 info_q rfl (by decide) (by decide) inferInstance (n := 1) (xs := (av V q).l) rfl (.inr ⟨_, rfl, fun j u hu => by rw [add_off, Nat.zero_add, cell_bx]; exact hu⟩) rfl (AV.nd _) rfl (l := rowA (U.drop p)) (fun j u hu => by rw [add_off]; exact (inferInstance : At _ g2 (rowA U) _).out _ _ (rowA_drop U p j u hu)) (by rw [rowA_len, List.length_drop]) (rowA_nd _) (by omega) (by omega) ?_
              intro g4 c4 W4 k4 i4
              have at4 := i4.at
              refine hd hK ?_; clear hH hK K; intro hH; refine st 10 fun K hK => ?_; rw [if_pos (by rfl)]
              refine appO_full (.tmp 44) (.tmp 50) 61 rfl Tryz.underlying61 info_q rfl (by decide) (by decide) inferInstance (n := p) (xs := rowA (U.take p)) rfl (.inr ⟨_, rfl, fun j u hu => by rw [add_off, Nat.zero_add]; exact (inferInstance : At _ g2 (rowA U) _).out _ _ (rowA_take U p j u hu)⟩) (by rw [rowA_len, List.length_take, Nat.min_eq_left (by omega)]) (rowA_nd _) rfl (l := (av V q).l ++ rowA (U.drop p)) (fun j u hu => by rw [add_off, Nat.zero_add]; exact at4.out _ _ hu) (by rw [List.length_append, AV.len, rowA_len, List.length_drop]; omega) (by rw [← rowA_cons]; exact rowA_nd _) (by omega) (by omega) ?_
              intro g5 c5 W5 k5 i5; refine hd hK ?_; clear hH hK K; intro hH; refine tk 11 hH ?_; refine dn ?_; clear hH; go_wp2
              go_roundw
              case rel => exact ⟨q + 1, U.take p ++ av V q :: U.drop p, insP N p (pg L q), by go_num, by omega, Rn.cast2 (Rn.low i5 Ge.out) (by first | (simp; done) | (simp; omega)) (by rw [rowA_app, rowA_cons]), PsQ.ins inferInstance (by omega) inferInstance inferInstance, Lib.hid (SortOf.new hN.out (by rw [← hlen.out]; omega) ⟨by have := HUl.out; omega, hpl.out⟩ (.inr (by have h2 : cmpP (pg N p) (pg L q) = v := HC.out; omega))), inferInstance⟩
              case measure => simp [intOf]; omega
        · obtain rfl : p = U.length := by omega
          rcases i1.cases with ⟨rfl, h0, rfl⟩ | ⟨g2, rfl, hA2⟩
          · obtain rfl : U = [] := List.eq_nil_of_length_eq_zero h0; clear h0; go_wp2_with fail; refine rgn [] [] fun hH => ?_; refine tk 0 hH ?_; refine tk 1 hH ?_; refine tk 2 hH ?_; refine tk 3 hH ?_; refine tk 4 hH ?_; refine tkU 5 hH ?_; refine tkU 6 hH ?_; refine tkU 7 hH ?_; refine tkU 8 hH ?_; refine tkU 9 hH ?_; refine tkU 10 hH ?_; refine tkU 11 hH ?_; refine tk 12 hH ?_; refine dn ?_; clear hH; go_wp2_with fail; refine rgn [] [] fun hH => ?_; refine tk 0 hH ?_; refine tk 1 hH ?_; refine tk 2 hH ?_; refine tk 3 hH ?_; refine tk 4 hH ?_; refine tkU 5 hH ?_; refine tkU 6 hH ?_; refine tkU 7 hH ?_; refine tkU 8 hH ?_; refine tkU 9 hH ?_; refine tkU 10 hH ?_; refine tkU 11 hH ?_; refine tk 12 hH ?_; refine dn ?_; clear hH; go_wp2_with fail; refine rgn [] [] fun hH => ?_; refine tk 0 hH ?_; refine tk 1 hH ?_; refine tk 2 hH ?_; refine tk 3 hH ?_; refine tk 4 hH ?_; refine tk 6 hH ?_; refine tk 7 hH ?_; refine tk 8 hH ?_; refine st 5 fun K hK => ?_; go_simp; refine hd hK ?_; clear hH hK K; intro hH; refine st 9 fun K hK => ?_; rw [if_pos (by rfl)]
            refine appO_none (.tmp 46) (.tmp 49) 61 rfl Tryz.underlying61 info_q rfl (Nat.le_refl _) rfl (.inl ⟨_, rfl⟩) ?_
            refine hd hK ?_; clear hH hK K; intro hH; refine st 10 fun K hK => ?_; rw [if_pos (by rfl)]
            refine appO_full (.tmp 44) (.tmp 50) 61 rfl Tryz.underlying61 info_q rfl (by decide) (by decide) inferInstance (xs := rowA ([] : List AV)) rfl (.inl ⟨rfl, rfl⟩) (rowA_len _) (rowA_nd _) rfl (l := (av V q).l) (fun j u hu => by rw [add_off, Nat.zero_add, cell_bx]; exact hu) rfl (AV.nd _) (by decide) (by omega) ?_
            intro g5 c5 W5 k5 i5; refine hd hK ?_; clear hH hK K; intro hH; refine tk 11 hH ?_; refine dn ?_; clear hH; go_wp2
            go_roundw
            case rel => exact ⟨q + 1,  av V q :: [], insP N 0 (pg L q), by go_num, by omega, Rn.cast2 (Rn.low i5 Ge.out) (by first | (simp; done) | (simp; omega)) (by simp [rowA]), PsQ.ins (V := []) inferInstance (Nat.le_refl _) inferInstance inferInstance, Lib.hid (SortOf.new hN.out (by rw [← hlen.out]; omega) ⟨by have := HUl.out; omega, hpl.out⟩ (.inl HUl.out)), inferInstance⟩
            case measure => simp [intOf]; omega
          · by_cases hcU : c3 = U.length
            · subst hcU; go_wp2_with fail; refine rgn [] [] fun hH => ?_; refine tk 0 hH ?_; refine tk 1 hH ?_; refine tk 2 hH ?_; refine tk 3 hH ?_; refine tk 4 hH ?_; refine tkU 5 hH ?_; refine tkU 6 hH ?_; refine tkU 7 hH ?_; refine tkU 8 hH ?_; refine tkU 9 hH ?_; refine tkU 10 hH ?_; refine tkU 11 hH ?_; refine tk 12 hH ?_; refine dn ?_; clear hH; go_wp2_with fail; refine rgn [] [] fun hH => ?_; refine tk 0 hH ?_; refine tk 1 hH ?_; refine tk 2 hH ?_; refine tk 3 hH ?_; refine tk 4 hH ?_; refine tkU 5 hH ?_; refine tkU 6 hH ?_; refine tkU 7 hH ?_; refine tkU 8 hH ?_; refine tkU 9 hH ?_; refine tkU 10 hH ?_; refine tkU 11 hH ?_; refine tk 12 hH ?_; refine dn ?_; clear hH; go_wp2_with fail; refine rgn [] [] fun hH => ?_; refine tk 0 hH ?_; refine tk 1 hH ?_; refine tk 2 hH ?_; refine tk 3 hH ?_; refine tk 4 hH ?_; refine tk 6 hH ?_; refine tk 7 hH ?_; refine tk 8 hH ?_; refine st 5 fun K hK => ?_; go_simp; refine hd hK ?_; clear hH hK K; intro hH; refine st 9 fun K hK => ?_; rw [if_pos (by rfl)]
              refine appO_none (.tmp 46) (.tmp 49) 61 rfl Tryz.underlying61 info_q rfl (Nat.le_refl _) rfl (.inr ⟨_, _, rfl⟩) ?_
              refine hd hK ?_; clear hH hK K; intro hH; refine st 10 fun K hK => ?_; rw [if_pos (by rfl)]
              refine appO_full (.tmp 44) (.tmp 50) 61 rfl Tryz.underlying61 info_q rfl (by decide) (by decide) inferInstance (xs := rowA U) rfl (.inr ⟨_, rfl, fun j u hu => by rw [add_off, Nat.zero_add]; exact (inferInstance : At _ g2 (rowA U) _).out _ _ hu⟩) (rowA_len _) (rowA_nd _) rfl (l := (av V q).l) (fun j u hu => by rw [add_off, Nat.zero_add, cell_bx]; exact hu) rfl (AV.nd _) (by decide) (by omega) ?_
              intro g5 c5 W5 k5 i5; refine hd hK ?_; clear hH hK K; intro hH; refine tk 11 hH ?_; refine dn ?_; clear hH; go_wp2
              go_roundw
              case rel => exact ⟨q + 1, U.take U.length ++ av V q :: U.drop U.length, insP N U.length (pg L q), by go_num, by omega, Rn.cast2 (Rn.low i5 Ge.out) (by first | (simp; done) | (simp; omega)) (by rw [List.take_length, List.drop_length, rowA_app, rowA_cons]; simp [rowA]), PsQ.ins inferInstance (by omega) inferInstance inferInstance, Lib.hid (SortOf.new hN.out (by rw [← hlen.out]; omega) ⟨by have := HUl.out; omega, hpl.out⟩ (.inl HUl.out)), inferInstance⟩
              case measure => simp [intOf]; omega
            · go_wp2_with fail; refine rgn [] [] fun hH => ?_; refine tk 0 hH ?_; refine tk 1 hH ?_; refine tk 2 hH ?_; refine tk 3 hH ?_; refine tk 4 hH ?_; refine tkU 5 hH ?_; refine tkU 6 hH ?_; refine tkU 7 hH ?_; refine tkU 8 hH ?_; refine tkU 9 hH ?_; refine tkU 10 hH ?_; refine tkU 11 hH ?_; refine tk 12 hH ?_; refine dn ?_; clear hH; go_wp2_with fail; refine rgn [] [] fun hH => ?_; refine tk 0 hH ?_; refine tk 1 hH ?_; refine tk 2 hH ?_; refine tk 3 hH ?_; refine tk 4 hH ?_; refine tkU 5 hH ?_; refine tkU 6 hH ?_; refine tkU 7 hH ?_; refine tkU 8 hH ?_; refine tkU 9 hH ?_; refine tkU 10 hH ?_; refine tkU 11 hH ?_; refine tk 12 hH ?_; refine dn ?_; clear hH; go_wp2_with fail; refine rgn [] [] fun hH => ?_; refine tk 0 hH ?_; refine tk 1 hH ?_; refine tk 2 hH ?_; refine tk 3 hH ?_; refine tk 4 hH ?_; refine tk 6 hH ?_; refine tk 7 hH ?_; refine tk 8 hH ?_; refine st 5 fun K hK => ?_; go_simp; refine hd hK ?_; clear hH hK K; intro hH; refine st 9 fun K hK => ?_; rw [if_pos (by rfl)]
              refine appO_none (.tmp 46) (.tmp 49) 61 rfl Tryz.underlying61 info_q rfl (Nat.le_refl _) rfl (.inr ⟨_, _, rfl⟩) ?_
              refine hd hK ?_; clear hH hK K; intro hH; refine st 10 fun K hK => ?_; rw [if_pos (by rfl)]
              refine appO_full (.tmp 44) (.tmp 50) 61 rfl Tryz.underlying61 info_q rfl (by decide) (by decide) inferInstance (xs := rowA U) rfl (.inr ⟨_, rfl, fun j u hu => by rw [add_off, Nat.zero_add]; exact (inferInstance : At _ g2 (rowA U) _).out _ _ hu⟩) (rowA_len _) (rowA_nd _) rfl (l := (av V q).l) (fun j u hu => by rw [add_off, Nat.zero_add, cell_bx]; exact hu) rfl (AV.nd _) (by decide) (by omega) ?_
              intro g5 c5 W5 k5 i5; refine hd hK ?_; clear hH hK K; intro hH; refine tk 11 hH ?_; refine dn ?_; clear hH; go_wp2
              go_roundw
              case rel => exact ⟨q + 1, U.take U.length ++ av V q :: U.drop U.length, insP N U.length (pg L q), by go_num, by omega, Rn.cast2 (Rn.low i5 Ge.out) (by first | (simp; done) | (simp; omega)) (by rw [List.take_length, List.drop_length, rowA_app, rowA_cons]; simp [rowA]), PsQ.ins inferInstance (by omega) inferInstance inferInstance, Lib.hid (SortOf.new hN.out (by rw [← hlen.out]; omega) ⟨by have := HUl.out; omega, hpl.out⟩ (.inl HUl.out)), inferInstance⟩
              case measure => simp [intOf]; omega
    · obtain rfl : q = V.length := by omega
      go_wp2_with fail; go_ret
      exact LenRet.fin (by have h1 := hN.out.len; have h2 := i2.len; rw [← hlen.out]; omega)
end
section
theorem appO_own {W w0 : World} {o : Oper} {a : Act} {K : Act → World → Prop} {Q : Exit → Act → World → Prop} (s x : Operand) (t : TypeId)
    (hop : o.op = .call { callee := .builtin .append, args := #[s, x], argTypes := #[t, t] }) {e : TypeId} (ht : Tryz.prog.underlying t = some (.slice e)) {z : Value} {sz bt : Nat}
    (hi : (Tryz.prog.info? e).map (fun i => (i.zero, i.size, i.bytes)) = some (some z, sz, bt)) (hzs : z.cells.size = sz) (hsz : 0 < sz) (hbt : bt ≤ 1000) (hz0 : ∀ u ∈ z.cells.toList, isDigit32 u = false) (he : BoxT e) {v : Value} {n : Nat} {xs : List Value} {base : Nat} (hs : a.eval s = v) [hr : Rn W v e sz n xs base w0]
    (hnx : ∀ u ∈ xs, isDigit32 u = false) {ad : Addr} {m c : Nat} {l : List Value} (hx : a.eval x = .slice (some ad) m c) (hb : ∀ j u, l[j]? = some u → W.cell? (ad.add j) = some u) (hl : l.length = m * sz) (h1 : ∀ u ∈ l, u.oneCell' = true) (hnl : ∀ u ∈ l, isDigit32 u = false) (hm : 0 < m) (hn : n + m ≤ 1000000)
    (hK : ∀ g c W' [Ap1 W W' base w0] [Apn W W'] [Rn W' (.slice (some ⟨g, 0, none⟩) (n + m) c) e sz (n + m) (xs ++ l) base W'], K (a.put o.dst (.slice (some ⟨g, 0, none⟩) (n + m) c)) W') :
    Oper.wp Tryz.prog o a W K Q := by
  obtain ⟨i0, hi0⟩ : ∃ i0, Tryz.prog.info? e = some i0 := by
    cases h : Tryz.prog.info? e with
    | none => rw [h] at hi; cases hi
    | some i0 => exact ⟨i0, rfl⟩
  rw [hi0] at hi; simp only [Option.map_some, Option.some.injEq, Prod.mk.injEq] at hi; obtain ⟨hz, hsz', hbt'⟩ := hi
  have hby : (n + m) * bt ≤ 140737488355328 := by
    have : (n + m) * bt ≤ 1000000 * 1000 := Nat.mul_le_mul hn hbt
    omega
  have hmx : n + m ≤ maxLen := by unfold maxLen; omega
  obtain ⟨v', w', hrun, h2, h3, h4⟩ := run_append_own (P := Tryz.prog) W base t o.type e i0 z sz bt ht hi0 hz hsz' hbt' hzs hsz v n xs hr.rw'.out ad m c l hl hb h1 hmx hby hr.rw'.hb
  have hsoft := append_nd (P := Tryz.prog) W t o.type e i0 z ht hi0 hz he (base := base) (by rw [hsz']; exact hr.rw'.out) hr.nd hnx ad m c l (by rw [hsz']; exact hl) hb h1 hnl hz0 hmx (by rw [hbt']; exact hby) hrun
  unfold Oper.wp execOp
  simp only [hop, resolve, invoke, builtin, Sem.run_bind, Sem.run_pure, Result.andThen_ok, List.map_toArray, List.map_cons, List.map_nil, hs, hx, hrun]
  have hne : v' ≠ .slice none 0 0 := fun e => by have := (h4.1 e).2; omega
  rcases h2.2 with ⟨e', _⟩ | ⟨g, cap, cur, e', _⟩
  · exact absurd e' hne
  · subst e'
    have i1 : Ap1 W w' base w0 := ⟨⟨_, h3, fun k hk => ⟨(hr.rw'.out.lt k hk).1, hr.rw'.lt k hk⟩⟩⟩
    have i2 : Apn W w' := ⟨⟨_, h3, hr.nd⟩⟩
    have i3 : Rn w' (.slice (some ⟨g, 0, none⟩) (n + m) cap) e sz (n + m) (xs ++ l) base w' := ⟨Rw.mk1 h2 (Nat.le_trans hr.rw'.hb h3.size), hsoft⟩
    exact @hK g cap w' i1 i2 i3
end
end Go.Proofs.YtdlnoeegboapkaaGreatDoor
