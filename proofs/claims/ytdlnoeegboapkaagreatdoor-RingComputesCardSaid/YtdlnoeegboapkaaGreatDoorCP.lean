/-
  Texts of this claim, joined: Rg9, Rg3, Rg4, Rgv, Sr.
-/
import Derived.Test.YtdlnoeegboapkaaGreatDoorCO
import Derived.Test.YtdlnoeegboapkaaGreatDoorCN
import Derived.RangeFuncNested
import Derived.RangeFuncBound
import Derived.RangeFuncCalls
import Derived.RangeFuncLeaves
import Derived.RangeFuncFrom
import Derived.RangeFuncWrites
import Derived.Shelf.Abstract
import Derived.Shelf.RegionOpen
import Derived.OwnWalkIn
import Derived.TacticsInMore
import Derived.LoopNIn
import Derived.LoopIn
import Derived.Test.YtdlnoeegboapkaaGreatDoorCM
import Derived.Test.YtdlnoeegboapkaaGreatDoorCH
import Derived.Test.YtdlnoeegboapkaaGreatDoorRows
import Derived.LaidMore
import Derived.Stop.LaidTwo
import Derived.Stop.Joined
/- Rotations and the order of rings, the least rotation: package geo and the reference. printed by a small program (mkrg9.py). -/
namespace Go.Proofs.YtdlnoeegboapkaaGreatDoor
open Go.RowKit
set_option maxRecDepth 100000
set_option maxHeartbeats 40000000
set_option synthInstance.maxSize 100000
set_option synthInstance.maxHeartbeats 1000000
set_option linter.unusedVariables false

instance (priority := low) Ex.ap {W0 W W2 w0 : World} {base : Nat} {L : List Nat} [k : Ap1 W W2 base w0] [h : Ex W0 L W] [n : Gg W0 base] : Ex W0 L W2 :=
  ⟨Nat.le_trans h.size k.size, fun b hb hL => by rw [k.block (Nat.lt_of_lt_of_le hb h.size) (.inl (Nat.lt_of_lt_of_le hb n.out))]; exact h.block b hb hL⟩
/-- append to a row of the call's own, as an operation. -/
theorem appO_own {W w0 : World} {o : Oper} {a : Act} {K : Act → World → Prop} {Q : Exit → Act → World → Prop} (s x : Operand) (t : TypeId)
    (hop : o.op = .call { callee := .builtin .append, args := #[s, x], argTypes := #[t, t] }) {e : TypeId} (ht : Tryz.prog.underlying t = some (.slice e)) {z : Value} {sz bt : Nat}
    (hi : (Tryz.prog.info? e).map (fun i => (i.zero, i.size, i.bytes)) = some (some z, sz, bt)) (hzs : z.cells.size = sz) (hsz : 0 < sz) (hbt : bt ≤ 1000) (hz0 : ∀ u ∈ z.cells.toList, isDigit32 u = false) (he : BoxT e) {v : Value} {n : Nat} {xs : List Value} {base : Nat} (hs : a.eval s = v) [hr : Rn W v e sz n xs base w0]
    (hnx : ∀ u ∈ xs, isDigit32 u = false) {ad : Addr} {m c : Nat} {l : List Value} (hx : a.eval x = .slice (some ad) m c) (hb : ∀ j u, l[j]? = some u → W.cell? (ad.add j) = some u) (hl : l.length = m * sz) (h1 : ∀ u ∈ l, u.oneCell' = true) (hnl : ∀ u ∈ l, isDigit32 u = false) (hm : 0 < m) (hn : n + m ≤ 1000000)
    (hK : ∀ g c W' [Ap1 W W' base w0] [Apn W W'] [Rn W' (.slice (some ⟨g, 0, none⟩) (n + m) c) e sz (n + m) (xs ++ l) base W'], K (a.put o.dst (.slice (some ⟨g, 0, none⟩) (n + m) c)) W') :
    Oper.wp Tryz.prog o a W K Q := by
  obtain ⟨i0, hi0⟩ : ∃ i0, Tryz.prog.info? e = some i0 := by
    cases h : Tryz.prog.info? e with
    | none => rw [h] at hi; cases hi
    | some i0 => exact ⟨i0, rfl⟩
  rw [hi0] at hi
  simp only [Option.map_some, Option.some.injEq, Prod.mk.injEq] at hi
  obtain ⟨hz, hsz', hbt'⟩ := hi
  have hby : (n + m) * bt ≤ 140737488355328 := by
    have : (n + m) * bt ≤ 1000000 * 1000 := Nat.mul_le_mul hn hbt
    omega
  have hmx : n + m ≤ maxLen := by unfold maxLen; omega
  obtain ⟨v', w', hrun, h2, h3, h4⟩ := run_append_own (P := Tryz.prog) W base t o.type e i0 z sz bt ht hi0 hz hsz' hbt' hzs hsz v n xs hr.rw'.out ad m c l hl hb h1 hmx hby hr.rw'.hb
  have hsoft := append_nd (P := Tryz.prog) W t o.type e i0 z ht hi0 hz he (base := base) (by rw [hsz']; exact hr.rw'.out) hr.nd hnx ad m c l (by rw [hsz']; exact hl) hb h1 hnl hz0 hmx (by rw [hbt']; exact hby) hrun
  unfold Oper.wp execOp
  simp only [hop, resolve, invoke, builtin, Sem.run_bind, Sem.run_pure, Result.andThen_ok, List.map_toArray, List.map_cons, List.map_nil, hs, hx, hrun]
  have hne : v' ≠ .slice none 0 0 := fun e => by have := (h4.1 e).2; omega
  rcases h2.2 with ⟨e', _⟩ | ⟨g, cap, cur, e', _⟩
  · exact absurd e' hne
  · subst e'
    have i1 : Ap1 W w' base w0 := ⟨⟨_, h3, fun k hk => ⟨(hr.rw'.out.lt k hk).1, hr.rw'.lt k hk⟩⟩⟩
    have i2 : Apn W w' := ⟨⟨_, h3, hr.nd⟩⟩
    have i3 : Rn w' (.slice (some ⟨g, 0, none⟩) (n + m) cap) e sz (n + m) (xs ++ l) base w' := ⟨Rw.mk1 h2 (Nat.le_trans hr.rw'.hb h3.size), hsoft⟩
    exact @hK g cap w' i1 i2 i3
theorem rowF_drop (U : List FV) (p : Nat) : ∀ (j : Nat) (u : Value), (rowF (U.drop p))[j]? = some u → (rowF U)[p * 6 + j]? = some u := by
  induction U generalizing p with
  | nil => intro j u h; simp [rowF] at h
  | cons x U ih =>
    intro j u h
    cases p with
    | zero => simpa using h
    | succ p =>
      have h2 := ih p j u h
      have e : rowF (x :: U) = x.l ++ rowF U := by simp [rowF]
      rw [e, List.getElem?_append_right (by rw [FV.len]; omega), FV.len]
      rw [show (p + 1) * 6 + j - 6 = p * 6 + j by omega]
      exact h2
theorem rowF_take (U : List FV) (p : Nat) : ∀ (j : Nat) (u : Value), (rowF (U.take p))[j]? = some u → (rowF U)[j]? = some u := by
  intro j u h
  have e : rowF U = rowF (U.take p) ++ rowF (U.drop p) := by
    unfold rowF; rw [← List.flatMap_append, List.take_append_drop]
  have hl : j < (rowF (U.take p)).length := by
    rcases Nat.lt_or_ge j (rowF (U.take p)).length with h1 | h1
    · exact h1
    · rw [List.getElem?_eq_none h1] at h; cases h
  rw [e, List.getElem?_append_left hl]; exact h
theorem rowF_app (U V : List FV) : rowF (U ++ V) = rowF U ++ rowF V := by simp [rowF]
theorem rowF_len (U : List FV) : (rowF U).length = U.length * 6 := flat_len FV.len U
theorem rowF_one (U : List FV) : ∀ u ∈ rowF U, u.oneCell' = true := flat_one FV.one U
theorem rowA_one (U : List AV) : ∀ u ∈ rowA U, u.oneCell' = true := flat_one AV.one U
theorem PsF.part {W : World} {V : List FV} {L : List (Rat × Rat)} {k : Nat} (h : PsF W V L k) {V2 : List FV} {L2 : List (Rat × Rat)} (hl : V2.length = L2.length) (hs : ∀ i, i < V2.length → ∃ j, j < V.length ∧ fv V2 i = fv V j ∧ pg L2 i = pg L j) : PsF W V2 L2 k := by
  refine ⟨hl, fun i hi => ?_, fun i hi => ?_⟩
  all_goals
    obtain ⟨j, h1, h2, h3⟩ := hs i hi
    rw [h2, h3]
    first | exact h.x j h1 | exact h.y j h1
theorem PsF.turn {W : World} {V : List FV} {L : List (Rat × Rat)} {k i : Nat} [h : PsF W V L k] (hi : i < V.length) : PsF W (V.drop i ++ V.take i) (rot L i) k := by
  have hl := h.len
  refine h.part (by rw [rot_len]; simp; omega) (fun j hj => ?_)
  have hj2 : j < V.length := by simp at hj; omega
  have hj3 : j < (rot L i).length := by rw [rot_len]; omega
  by_cases hc : j < V.length - i
  · refine ⟨i + j, by omega, ?_, ?_⟩
    · rw [fv_get hj, fv_get (by omega), List.getElem_append_left (by rw [List.length_drop]; exact hc), List.getElem_drop]
    · rw [pg_get hj3, pg_get (by omega)]
      simp only [rot]
      rw [List.getElem_append_left (by rw [List.length_drop]; omega), List.getElem_drop]
  · refine ⟨j - (V.length - i), by omega, ?_, ?_⟩
    · rw [fv_get hj, fv_get (by omega), List.getElem_append_right (by rw [List.length_drop]; omega), List.getElem_take]
      simp only [List.length_drop]
    · rw [pg_get hj3, pg_get (by omega)]
      simp only [rot]
      rw [List.getElem_append_right (by rw [List.length_drop]; omega), List.getElem_take]
      simp only [List.length_drop, hl]
theorem PsQ.part {W : World} {V : List AV} {L : List (Rat × Rat)} {k : Nat} (h : PsQ W V L k) {V2 : List AV} {L2 : List (Rat × Rat)} (hl : V2.length = L2.length) (hs : ∀ i, i < V2.length → ∃ j, j < V.length ∧ av V2 i = av V j ∧ pg L2 i = pg L j) : PsQ W V2 L2 k := by
  refine ⟨hl, fun i hi => ?_, fun i hi => ?_⟩
  all_goals
    obtain ⟨j, h1, h2, h3⟩ := hs i hi
    rw [h2, h3]
    first | exact h.x j h1 | exact h.y j h1
theorem PsQ.turn {W : World} {V : List AV} {L : List (Rat × Rat)} {k i : Nat} [h : PsQ W V L k] (hi : i < V.length) : PsQ W (V.drop i ++ V.take i) (rot L i) k := by
  have hl := h.len
  refine h.part (by rw [rot_len]; simp; omega) (fun j hj => ?_)
  have hj2 : j < V.length := by simp at hj; omega
  have hj3 : j < (rot L i).length := by rw [rot_len]; omega
  by_cases hc : j < V.length - i
  · refine ⟨i + j, by omega, ?_, ?_⟩
    · rw [av_get hj, av_get (by omega), List.getElem_append_left (by rw [List.length_drop]; exact hc), List.getElem_drop]
    · rw [pg_get hj3, pg_get (by omega)]
      simp only [rot]
      rw [List.getElem_append_left (by rw [List.length_drop]; omega), List.getElem_drop]
  · refine ⟨j - (V.length - i), by omega, ?_, ?_⟩
    · rw [av_get hj, av_get (by omega), List.getElem_append_right (by rw [List.length_drop]; omega), List.getElem_take]
      simp only [List.length_drop]
    · rw [pg_get hj3, pg_get (by omega)]
      simp only [rot]
      rw [List.getElem_append_right (by rw [List.length_drop]; omega), List.getElem_take]
      simp only [List.length_drop, hl]
theorem PsA.part {W : World} {V : List AV} {L : List (Rat × Rat)} {k : Nat} (h : PsA W V L k) {V2 : List AV} {L2 : List (Rat × Rat)} (hl : V2.length = L2.length) (hs : ∀ i, i < V2.length → ∃ j, j < V.length ∧ av V2 i = av V j ∧ pg L2 i = pg L j) : PsA W V2 L2 k := by
  refine ⟨hl, fun i hi => ?_, fun i hi => ?_⟩
  all_goals
    obtain ⟨j, h1, h2, h3⟩ := hs i hi
    rw [h2, h3]
    first | exact h.x j h1 | exact h.y j h1
theorem PsA.turn {W : World} {V : List AV} {L : List (Rat × Rat)} {k i : Nat} [h : PsA W V L k] (hi : i < V.length) : PsA W (V.drop i ++ V.take i) (rot L i) k := by
  have hl := h.len
  refine h.part (by rw [rot_len]; simp; omega) (fun j hj => ?_)
  have hj2 : j < V.length := by simp at hj; omega
  have hj3 : j < (rot L i).length := by rw [rot_len]; omega
  by_cases hc : j < V.length - i
  · refine ⟨i + j, by omega, ?_, ?_⟩
    · rw [av_get hj, av_get (by omega), List.getElem_append_left (by rw [List.length_drop]; exact hc), List.getElem_drop]
    · rw [pg_get hj3, pg_get (by omega)]
      simp only [rot]
      rw [List.getElem_append_left (by rw [List.length_drop]; omega), List.getElem_drop]
  · refine ⟨j - (V.length - i), by omega, ?_, ?_⟩
    · rw [av_get hj, av_get (by omega), List.getElem_append_right (by rw [List.length_drop]; omega), List.getElem_take]
      simp only [List.length_drop]
    · rw [pg_get hj3, pg_get (by omega)]
      simp only [rot]
      rw [List.getElem_append_right (by rw [List.length_drop]; omega), List.getElem_take]
      simp only [List.length_drop, hl]
theorem cmpLs_len {L M : List (Rat × Rat)} {q : Nat} (h : cmpLs L M = cmpLs (L.drop q) (M.drop q)) (hq : q = min L.length M.length) : cmpLs L M = if L.length < M.length then -1 else if M.length < L.length then 1 else 0 := by
  rw [h]; exact cmpLs_end (by omega) (by omega)
theorem rotC {w w0 : World} {a : Option Addr} {n c : Nat} {V : List FV} {L : List (Rat × Rat)} {k : Nat} [hs : Sl w (.slice a n c) V.length (rowF V) w0] [hp : PsF w V L k] {i : Nat} (hi : i < V.length) (hV : V.length ≤ 1000) :
    Calls Tryz.prog 149 #[.slice a n c, .int .i64 (i : Int)] w (PsFRet w (rot L i) k) := by
  obtain rfl := hs.len
  have hlen := Lib.hid hp.len
  have hcap := hs.capc
  obtain ⟨g, rfl, hA⟩ := hs.form (by omega)
  have hci : ¬ (c = i) := by omega
  have hic : i ≤ c := by omega
  have hil : i ≤ V.length := by omega
  have hi' : (i : Int) < V.length := by omega
  have hi2 : (i : Int) ≤ V.length := by omega
  go_enter Tryz.func149, Tryz.ntmps149
  by_cases h0 : i = 0
  · subst h0
    rw [show (((0 : Nat)) : Int) = 0 from rfl]
    go_wp2_with fail
    refine rgn [] [] fun hHeld => ?_
    refine tk 0 hHeld ?_
    refine tk 1 hHeld ?_
    refine tk 2 hHeld ?_
    refine tk 4 hHeld ?_
    refine tk 5 hHeld ?_
    refine tk 6 hHeld ?_
    refine st 3 fun K hK => ?_
    rw [if_pos (by rfl)]
    refine appO_full (.const (.slice none 0 0)) (.tmp 7) 131 rfl Tryz.underlying131 info_f rfl (by decide) (by decide) inferInstance (n := 0) (xs := []) rfl (.inl ⟨rfl, rfl⟩) rfl (by simp) rfl (l := rowF V) (fun j u hu => by rw [add_off, Nat.zero_add]; exact (inferInstance : At _ g (rowF V) _).out _ _ hu) (rowF_len _) (rowF_nd _) (by omega) (by omega) ?_
    intro g4 c4 W4 k4 i4
    simp only [Nat.zero_add, List.nil_append] at i4 ⊢
    have hc4 := i4.cap.1
    refine hd hK ?_
    clear hHeld hK K
    intro hHeld
    refine st 7 fun K hK => ?_
    rw [if_pos (by rfl)]
    refine appO_none (.tmp 8) (.tmp 11) 131 rfl Tryz.underlying131 info_f rfl hc4 rfl (.inr ⟨_, _, rfl⟩) ?_
    refine hd hK ?_
    clear hHeld hK K
    intro hHeld
    refine tk 8 hHeld ?_
    refine dn ?_
    clear hHeld
    go_wp2
    go_ret
    exact PsFRet.fin (V := V.drop 0 ++ V.take 0) (hs := Sl.ofRn (h := Rn.cast2 i4 (by simp) (by simp))) (hv := PsF.turn (h := inferInstance) (by omega)) rfl (Nat.le_refl _)
  · have h0' : ¬ (V.length = i) := by omega
    have h0'' : ¬ (i = 0) := h0
    go_wp2_with fail
    refine rgn [] [] fun hHeld => ?_
    refine tk 0 hHeld ?_
    refine tk 1 hHeld ?_
    refine tk 2 hHeld ?_
    refine tk 4 hHeld ?_
    refine tk 5 hHeld ?_
    refine tk 6 hHeld ?_
    refine st 3 fun K hK => ?_
    rw [if_pos (by rfl)]
    refine appO_full (.const (.slice none 0 0)) (.tmp 7) 131 rfl Tryz.underlying131 info_f rfl (by decide) (by decide) inferInstance (n := 0) (xs := []) rfl (.inl ⟨rfl, rfl⟩) rfl (by simp) rfl (l := rowF (V.drop i)) (fun j u hu => by rw [add_off]; exact (inferInstance : At _ g (rowF V) _).out _ _ (rowF_drop V i j u hu)) (by rw [rowF_len, List.length_drop]) (rowF_nd _) (by omega) (by omega) ?_
    intro g4 c4 W4 k4 i4
    simp only [Nat.zero_add, List.nil_append] at i4 ⊢
    refine hd hK ?_
    clear hHeld hK K
    intro hHeld
    refine st 7 fun K hK => ?_
    rw [if_pos (by rfl)]
    refine appO_own (v := .slice (some ⟨g4, 0, none⟩) (V.length - i) c4) (.tmp 8) (.tmp 11) 131 rfl Tryz.underlying131 info_f rfl (by decide) (by decide) (by decide) inferInstance rfl (rowF_nd _) rfl (l := rowF (V.take i)) (fun j u hu => by rw [add_off, Nat.zero_add]; exact (inferInstance : At _ g (rowF V) _).out _ _ (rowF_take V i j u hu)) (by rw [rowF_len, List.length_take, Nat.min_eq_left (by omega)]) (rowF_one _) (rowF_nd _) (by omega) (by omega) ?_
    intro g5 c5 W5 k5 k5n i5
    simp only [Nat.sub_add_cancel (show i ≤ V.length by omega)] at i5 ⊢
    refine hd hK ?_
    clear hHeld hK K
    intro hHeld
    refine tk 8 hHeld ?_
    refine dn ?_
    clear hHeld
    go_wp2
    go_ret
    exact PsFRet.fin (V := V.drop i ++ V.take i) (hs := Sl.ofRn (h := Rn.cast2 i5 (by simp; omega) (by simp [rowF_app]))) (hv := PsF.turn (h := inferInstance) (by omega)) rfl (Nat.le_refl _)
theorem ptCmpV {w : World} {n1x d1x n1y d1y n2x d2x n2y d2y : Int} {p1x p1y p2x p2y : Option Addr} {x1 y1 x2 y2 : Rat} {k1x k1y k2x k2y : Nat} [h1x : CF w (.agg #[.int .i64 n1x, .int .i64 d1x, .pointer p1x]) x1 k1x] [h1y : CF w (.agg #[.int .i64 n1y, .int .i64 d1y, .pointer p1y]) y1 k1y] [h2x : CF w (.agg #[.int .i64 n2x, .int .i64 d2x, .pointer p2x]) x2 k2x] [h2y : CF w (.agg #[.int .i64 n2y, .int .i64 d2y, .pointer p2y]) y2 k2y] (b : k1x ≤ 100000 ∧ k1y ≤ 100000 ∧ k2x ≤ 100000 ∧ k2y ≤ 100000) {v : Int} (hv : Hid (cmpP (x1, y1) (x2, y2) = v)) :
    Calls Tryz.prog 148 #[.agg #[.int .i64 n1x, .int .i64 d1x, .pointer p1x, .int .i64 n1y, .int .i64 d1y, .pointer p1y], .agg #[.int .i64 n2x, .int .i64 d2x, .pointer p2x, .int .i64 n2y, .int .i64 d2y, .pointer p2y]] w (fun e w' => e = .returned (.int .i64 v) ∧ Below w.heap.size w w') := by
  have h := hv.out
  subst h
  exact ptCmpC b
theorem ringCmpV {w w0 w1 : World} {a a2 : Option Addr} {n c n2 c2 : Nat} {V V2 : List FV} {L M : List (Rat × Rat)} {k k2 : Nat} [hs : Sl w (.slice a n c) V.length (rowF V) w0] [hp : PsF w V L k] [hs2 : Sl w (.slice a2 n2 c2) V2.length (rowF V2) w1] [hp2 : PsF w V2 M k2] {res : Int} (b : k ≤ 90000 ∧ k2 ≤ 90000) (hV : V.length ≤ 1000 ∧ V2.length ≤ 1000) (hr : Hid (cmpLs L M = res)) :
    Calls Tryz.prog 87 #[.slice a n c, .slice a2 n2 c2] w (fun e w' => e = .returned (.int .i64 res) ∧ Below w.heap.size w w') := by
  obtain rfl := hs.len
  obtain rfl := hs2.len
  have hlen := Lib.hid hp.len
  have hlen2 := Lib.hid hp2.len
  obtain ⟨mn, hmn⟩ : ∃ mn, min V.length V2.length = mn := ⟨_, rfl⟩
  have hm1 : mn ≤ V.length := by omega
  have hm2 : mn ≤ V2.length := by omega
  have hmi : min (V.length : Int) (V2.length : Int) = (mn : Int) := by omega
  have HM := Lib.hid hmn
  clear hmn
  go_enter Tryz.func87, Tryz.ntmps87
  go_wp2_with fail
  go_loopw [12] (fun i wr => ∃ q : Nat, i = .int .i64 (q : Int) ∧ q ≤ mn ∧ Hid (cmpLs (L.drop q) (M.drop q) = cmpLs L M) ∧ Kp w wr) (fun i _ => mn - (intOf i).toNat)
  case atStart => exact ⟨0, rfl, by omega, Lib.hid (by simp), inferInstance⟩
  case round =>
    obtain ⟨q, rfl, hq, hE, i1⟩ := hrel
    have kw := Kp1.mk i1.out
    have hres := hr.out
    by_cases hlt : q < mn
    · have hltm : (q : Int) < (mn : Int) := by omega
      have hltv : q < V.length := by omega
      have hlt' : (q : Int) < V.length := by omega
      have hlt2 : q < V2.length := by omega
      have hlt2' : (q : Int) < V2.length := by omega
      have lq : LtN q V.length := ⟨by omega⟩
      have lq2 : LtN q V2.length := ⟨hlt2⟩
      have ew : IntKind.i64.wrap ((q : Int) + 1) = (q : Int) + 1 := wr_in (by omega) (by omega)
      obtain ⟨g, rfl, hA⟩ := hs.form (by omega)
      obtain ⟨g2, rfl, hA2⟩ := hs2.form (by omega)
      have hl1 : q < L.length := by rw [← hlen.out]; omega
      have hl2 : q < M.length := by rw [← hlen2.out]; omega
      obtain ⟨v, hv0⟩ : ∃ v, cmpP (pg L q) (pg M q) = v := ⟨_, rfl⟩
      have HV : Hid (cmpP ((pg L q).1, (pg L q).2) ((pg M q).1, (pg M q).2) = v) := Lib.hid hv0
      have HL1 := Lib.hid hl1
      have HL2 := Lib.hid hl2
      have HV0 := Lib.hid hv0
      clear hv0 hl1 hl2
      by_cases hz : v = 0
      · have hz1 : (v != 0) = false := by simp [hz]
        go_wp2_with fail
        refine rgn [] [] fun hHeld => ?_
        refine tk 0 hHeld ?_
        refine tk 1 hHeld ?_
        refine tk 2 hHeld ?_
        refine tk 3 hHeld ?_
        refine tk 4 hHeld ?_
        refine tk 5 hHeld ?_
        refine tk 6 hHeld ?_
        refine tk 7 hHeld ?_
        refine st 8 fun K hK => ?_
        go_simp
        (with_reducible refine Calls.cE (ptCmpV (by omega) HV) ?_); intros
        refine hd hK ?_
        clear hHeld hK K
        intro hHeld
        refine tk 9 hHeld ?_
        refine dn ?_
        clear hHeld
        go_wp2
        go_roundw
        case rel => exact ⟨q + 1, by go_num, by omega, Lib.hid (by rw [← hE.out]; exact (cmpLs_step HL1.out HL2.out (by rw [HV0.out]; exact hz)).symm), inferInstance⟩
        case measure => simp [intOf]; omega
      · have hz1 : (v != 0) = true := by simp [hz]
        have HR : Hid (v = res) := Lib.hid (by
          have h2 := cmpLs_ne HL1.out HL2.out (by rw [HV0.out]; exact hz)
          rw [← hE.out, h2, HV0.out] at hres
          exact hres)
        go_wp2_with fail
        refine rgn [] [] fun hHeld => ?_
        refine tk 0 hHeld ?_
        refine tk 1 hHeld ?_
        refine tk 2 hHeld ?_
        refine tk 3 hHeld ?_
        refine tk 4 hHeld ?_
        refine tk 5 hHeld ?_
        refine tk 6 hHeld ?_
        refine tk 7 hHeld ?_
        refine st 8 fun K hK => ?_
        go_simp
        (with_reducible refine Calls.cE (ptCmpV (by omega) HV) ?_); intros
        refine hd hK ?_
        clear hHeld hK K
        intro hHeld
        refine tk 9 hHeld ?_
        refine dn ?_
        clear hHeld
        go_wp2
        go_ret
        exact E.fin (by first | rfl | (rw [HR.out]; rfl) | rw [HR.out])
    · obtain rfl : q = mn := by omega
      have h9 := cmpLs_end (L := L) (M := M) (i := q) (by have := HM.out; have := hlen.out; have := hlen2.out; omega) (by have := hlen.out; have := hlen2.out; omega)
      rw [hE.out, hres, ← hlen.out, ← hlen2.out] at h9
      rcases Nat.lt_trichotomy V.length V2.length with h | h | h
      · rw [if_pos h] at h9
        have h' : (V.length : Int) < V2.length := by omega
        clear hE hres
        subst h9
        go_wp2_with fail
        go_ret
        exact E.fin rfl
      · rw [if_neg (by omega), if_neg (by omega)] at h9
        have h1 : ¬ ((V.length : Int) < V2.length) := by omega
        have h2 : ¬ ((V2.length : Int) < V.length) := by omega
        have h3 : ¬ (V.length < V2.length) := by omega
        have h4 : ¬ (V2.length < V.length) := by omega
        clear hE hres h
        subst h9
        go_wp2_with fail
        go_ret
        exact E.fin rfl
      · rw [if_neg (by omega), if_pos h] at h9
        have h1 : ¬ ((V.length : Int) < V2.length) := by omega
        have h2 : ((V2.length : Int) < V.length) := by omega
        have h3 : ¬ (V.length < V2.length) := by omega
        clear hE hres
        subst h9
        go_wp2_with fail
        go_ret
        exact E.fin rfl
theorem refRingCmpV {w w0 w1 : World} {a a2 : Option Addr} {n c n2 c2 : Nat} {V V2 : List AV} {L M : List (Rat × Rat)} {k k2 : Nat} [hs : Sl w (.slice a n c) V.length (rowA V) w0] [hp : PsQ w V L k] [hs2 : Sl w (.slice a2 n2 c2) V2.length (rowA V2) w1] [hp2 : PsQ w V2 M k2] {res : Int} (b : k ≤ 9000 ∧ k2 ≤ 9000) (hV : V.length ≤ 1000 ∧ V2.length ≤ 1000) (hr : Hid (cmpLs L M = res)) :
    Calls Tryz.prog 32 #[.slice a n c, .slice a2 n2 c2] w (fun e w' => e = .returned (.int .i64 res) ∧ Below w.heap.size w w') := by
  obtain rfl := hs.len
  obtain rfl := hs2.len
  have hlen := Lib.hid hp.len
  have hlen2 := Lib.hid hp2.len
  go_enter Tryz.func32, Tryz.ntmps32
  go_wp2_with fail
  go_loopw [9] (fun i wr => ∃ q : Nat, i = .int .i64 (q : Int) ∧ (q ≤ V.length ∧ q ≤ V2.length) ∧ Hid (cmpLs (L.drop q) (M.drop q) = cmpLs L M) ∧ Kp w wr) (fun i _ => V.length - (intOf i).toNat)
  case atStart => exact ⟨0, rfl, by omega, Lib.hid (by simp), inferInstance⟩
  case round =>
    obtain ⟨q, rfl, hq, hE, i1⟩ := hrel
    have kw := Kp1.mk i1.out
    have hres := hr.out
    by_cases hlt : q < V.length ∧ q < V2.length
    · have hltv : q < V.length := hlt.1
      have hqe : ¬ ((q : Int) = (V2.length : Int)) := by omega
      have hqe1 : ¬ (q = V2.length) := by omega
      have hqe2 : ((q : Int) == (V2.length : Int)) = false := beq_false_of_ne hqe
      have hlt' : (q : Int) < V.length := by omega
      have hlt2 : q < V2.length := by omega
      have hlt2' : (q : Int) < V2.length := by omega
      have lq : LtN q V.length := ⟨by omega⟩
      have lq2 : LtN q V2.length := ⟨hlt2⟩
      have ew : IntKind.i64.wrap ((q : Int) + 1) = (q : Int) + 1 := wr_in (by omega) (by omega)
      obtain ⟨g, rfl, hA⟩ := hs.form (by omega)
      obtain ⟨g2, rfl, hA2⟩ := hs2.form (by omega)
      have hl1 : q < L.length := by rw [← hlen.out]; omega
      have hl2 : q < M.length := by rw [← hlen2.out]; omega
      obtain ⟨v, hv0⟩ : ∃ v, cmpP (pg L q) (pg M q) = v := ⟨_, rfl⟩
      have HV : Hid (cmpP ((pg L q).1, (pg L q).2) ((pg M q).1, (pg M q).2) = v) := Lib.hid hv0
      have HL1 := Lib.hid hl1
      have HL2 := Lib.hid hl2
      have HV0 := Lib.hid hv0
      clear hv0 hl1 hl2
      by_cases hz : v = 0
      · have hz1 : (v != 0) = false := by simp [hz]
        go_wp2_with fail
        refine rgn [] [] fun hHeld => ?_
        refine tk 0 hHeld ?_
        refine tk 1 hHeld ?_
        refine tk 2 hHeld ?_
        refine tk 3 hHeld ?_
        refine tk 4 hHeld ?_
        refine tk 5 hHeld ?_
        refine tk 6 hHeld ?_
        refine tk 7 hHeld ?_
        refine st 8 fun K hK => ?_
        go_simp
        (with_reducible refine Calls.cE (refCompareV (by omega) HV) ?_); intros
        refine hd hK ?_
        clear hHeld hK K
        intro hHeld
        refine tk 9 hHeld ?_
        refine dn ?_
        clear hHeld
        go_wp2
        go_roundw
        case rel => exact ⟨q + 1, by go_num, by omega, Lib.hid (by rw [← hE.out]; exact (cmpLs_step HL1.out HL2.out (by rw [HV0.out]; exact hz)).symm), inferInstance⟩
        case measure => simp [intOf]; omega
      · have hz1 : (v != 0) = true := by simp [hz]
        have HR : Hid (v = res) := Lib.hid (by
          have h2 := cmpLs_ne HL1.out HL2.out (by rw [HV0.out]; exact hz)
          rw [← hE.out, h2, HV0.out] at hres
          exact hres)
        go_wp2_with fail
        refine rgn [] [] fun hHeld => ?_
        refine tk 0 hHeld ?_
        refine tk 1 hHeld ?_
        refine tk 2 hHeld ?_
        refine tk 3 hHeld ?_
        refine tk 4 hHeld ?_
        refine tk 5 hHeld ?_
        refine tk 6 hHeld ?_
        refine tk 7 hHeld ?_
        refine st 8 fun K hK => ?_
        go_simp
        (with_reducible refine Calls.cE (refCompareV (by omega) HV) ?_); intros
        refine hd hK ?_
        clear hHeld hK K
        intro hHeld
        refine tk 9 hHeld ?_
        refine dn ?_
        clear hHeld
        go_wp2
        go_ret
        exact E.fin (by first | rfl | (rw [HR.out]; rfl) | rw [HR.out])
    · have h9 := cmpLs_end (L := L) (M := M) (i := q) (by have := hlen.out; have := hlen2.out; omega) (by have := hlen.out; have := hlen2.out; omega)
      rw [hE.out, hres, ← hlen.out, ← hlen2.out] at h9
      by_cases hlv : q < V.length
      · have hlv' : (q : Int) < V.length := by omega
        obtain rfl : q = V2.length := by omega
        rw [if_neg (by omega), if_pos hlv] at h9
        clear hE hres
        subst h9
        go_wp2_with fail
        go_ret
        exact E.fin rfl
      · obtain rfl : q = V.length := by omega
        by_cases h : V.length < V2.length
        · rw [if_pos h] at h9
          have h' : (V.length : Int) < V2.length := by omega
          clear hE hres
          subst h9
          go_wp2_with fail
          go_ret
          exact E.fin rfl
        · rw [if_neg h, if_neg (by omega)] at h9
          have h' : ¬ ((V.length : Int) < V2.length) := by omega
          clear hE hres
          subst h9
          go_wp2_with fail
          go_ret
          exact E.fin rfl
end Go.Proofs.YtdlnoeegboapkaaGreatDoor

/- The edges of a ring: an iterator's contract, and a range over them whose variable lies in a box. printed by a small program (mkrg3.py). -/
namespace Go.Proofs.YtdlnoeegboapkaaGreatDoor
open Go.RowKit
set_option maxRecDepth 100000
set_option maxHeartbeats 40000000
set_option synthInstance.maxSize 100000
set_option synthInstance.maxHeartbeats 1000000
open Go.Shelf
set_option maxRecDepth 100000
set_option maxHeartbeats 40000000
set_option synthInstance.maxSize 100000
set_option synthInstance.maxHeartbeats 1000000

attribute [local go_sem] Oper.semAt_some
theorem nmwp {P : Program} {c : Code} {Q : Exit → Act → World → Prop} {a : Act} {W : World} (R : World → Prop) (h : R W) (k : ∀ W1, R W1 → c.wp P Q a W1) : c.wp P Q a W := k W h
theorem nmreg {F : Fence} {n : Nat} {P : Program} {id : Nat} {ops : Array Oper} {Q : Exit → Act → World → Prop} {a : Act} {W : World} (R : World → Prop) (h : R W) (k : ∀ W1, R W1 → (Code.region id ops true).wpIn F n P Q a W1) : (Code.region id ops true).wpIn F n P Q a W := k W h
/-- The edge i, as yield is handed it. -/
def edL (V : List FV) (i : Nat) : List Value := [.int .i64 (fv V i).nx, .int .i64 (fv V i).dx, .pointer (fv V i).px, .int .i64 (fv V i).ny, .int .i64 (fv V i).dy, .pointer (fv V i).py,
  .int .i64 (fv V ((i + 1) % V.length)).nx, .int .i64 (fv V ((i + 1) % V.length)).dx, .pointer (fv V ((i + 1) % V.length)).px, .int .i64 (fv V ((i + 1) % V.length)).ny, .int .i64 (fv V ((i + 1) % V.length)).dy, .pointer (fv V ((i + 1) % V.length)).py]
def encE (V : List FV) (i : Fin V.length) : Array Value := #[.int .i64 ((i.val : Nat) : Int), .agg (edL V i.val).toArray]
theorem upto_succ {n q : Nat} (h : q < n) : (List.finRange n).take (q + 1) = (List.finRange n).take q ++ [⟨q, h⟩] := by
  rw [List.take_succ_eq_append_getElem (by simpa using h)]
  simp
theorem edges1_in (n : Nat) (hn : 1 ≤ n) (l Br n₀ g c : Nat) (V : List FV) (hV : V.length ≤ 1000000) (hg : g < n₀) (hBr : Br < n₀) (J Jx : List (Fin V.length) → World → Prop) (W : World) (hn₀ : n₀ ≤ W.heap.size) (hJ : AbidesFrom W.heap.size J)
    (hY : ∀ pre x W1, J pre W1 → pre.length < V.length → YieldAt Fence.wide (n - 1) Tryz.prog l (encE V x) W1 fun e W' =>
      (e = .returned (.bool true) ∧ J (pre ++ [x]) W' ∧ Below n₀ W1 W') ∨ (e = .returned (.bool false) ∧ Jx (pre ++ [x]) W'))
    [hB : Bx W Br 131 [.slice (some ⟨g, 0, none⟩) V.length c]] {w0 : World} [hA : At W g (rowF V) w0] (h0 : J [] W) :
    CallsIn Fence.wide n Tryz.prog 202 #[.func (.yield l) #[] #[], .pointer (some ⟨Br, 0, none⟩)] W fun e W' => (∃ v, e = .returned v) ∧
      ((∃ ys, ys = List.finRange V.length ∧ J ys W') ∨ (∃ pre, pre <+: List.finRange V.length ∧ Jx pre W')) := by
  have hmx : Tryz.prog.follows .mixedOrders = true := by kernel_rfl
  refine callsIn_of_wp Tryz.func202 rfl trivial ?_ rfl
  simp only [Tryz.ntmps202, List.size_toArray, List.length_cons, List.length_nil, Nat.reduceAdd, Nat.reduceSub, Array.replicate_succ, Array.replicate_zero, List.push_toArray, List.append_toArray, List.nil_append, List.cons_append]
  gi_wp2
  gi_loopw [7] (fun i wr => ∃ q : Nat, q ≤ V.length ∧ i = .int .i64 (q : Int) ∧ J ((List.finRange V.length).take q) wr ∧ Below n₀ W wr) (fun i _ => V.length - (intOf i).toNat)
  case atStart => exact ⟨0, Nat.zero_le _, rfl, by simpa using h0, Below.refl _ _⟩
  case round =>
    obtain ⟨q, hq, rfl, hJs, hnx⟩ := hrel
    by_cases hlt : q < V.length
    · have hlt' : (q : Int) < V.length := by omega
      have i1 : Bx wr Br 131 [.slice (some ⟨g, 0, none⟩) V.length c] := ⟨(hnx.block Br hBr).trans hB.out⟩
      have i2 : At wr g (rowF V) wr := ⟨fun j u hu => (hnx.cell (p := ⟨g, j, none⟩) hg).trans (hA.out j u hu), Nat.lt_of_lt_of_le (Nat.lt_of_lt_of_le hg hn₀) hnx.size, Nat.lt_of_lt_of_le (Nat.lt_of_lt_of_le hg hn₀) hnx.size⟩
      have ew : IntKind.i64.wrap ((q : Int) + 1) = (q : Int) + 1 := wr_in (by omega) (by omega)
      obtain ⟨m, hm0⟩ : ∃ m, (q + 1) % V.length = m := ⟨_, rfl⟩
      have hm : m < V.length := by rw [← hm0]; exact Nat.mod_lt _ (by omega)
      have hm' : (m : Int) < V.length := by omega
      have er : ((q : Int) + 1).tmod (V.length : Int) = (m : Int) := by
        rw [← hm0, show (q : Int) + 1 = ((q + 1 : Nat) : Int) by omega]; exact (Int.ofNat_tmod _ _).symm
      have HM := Lib.hid hm0
      clear hm0
      have hz : ¬ ((V.length : Int) = 0) := by omega
      have hz2 : ¬ (V.length = 0) := by omega
      have hz3 : V ≠ [] := fun e => by rw [e] at hlt; simp at hlt
      gi_wp2
      refine nmreg (fun W4 => Kp wr W4 ∧ Bx W4 wr.heap.size 152 (fv V q).l ∧ Bx W4 Br 131 [.slice (some ⟨g, 0, none⟩) V.length c] ∧ At W4 g (rowF V) wr) ⟨inferInstance, Bx.re rfl, inferInstance, inferInstance⟩ ?_
      intro W4 ⟨k1, k2, k3, k4⟩
      have hJ4 := hJ _ _ W4.drew none hJs (below_gb (inferInstance : Kp wr W4.drew).out) (fun r e => by cases e)
      obtain ⟨fn, tmps, assign, body, hy, hR⟩ := hY _ ⟨q, hlt⟩ _ hJ4 (by simp; omega)
      have hR' := hR.mono (R' := fun e W' => ∃ b : Bool, e = .returned (.bool b) ∧ (b = true → J ((List.finRange V.length).take (q + 1)) W' ∧ Below n₀ W4.drew W') ∧ (b = false → Jx ((List.finRange V.length).take (q + 1)) W')) (by
        rintro e W' (⟨h1, h2, h3⟩ | ⟨h1, h2⟩)
        · exact ⟨true, h1, fun _ => ⟨(by rw [upto_succ hlt]; exact h2), h3⟩, fun h => (by cases h)⟩
        · exact ⟨false, h1, fun h => (by cases h), fun _ => (by rw [upto_succ hlt]; exact h2)⟩)
      clear hR
      dsimp only [encE, edL] at hy
      rw [HM.out] at hy
      simp only [FV.l] at k2
      clear hY hJ
      gi_region_with_o (refine hR'.mono ?_; rintro e W5 ⟨b, rfl, hb1, hb2⟩)
      all_goals
        cases b with
        | true =>
          obtain ⟨hJ5, hk5⟩ := hb1 rfl
          have hk6 : Below n₀ wr W5 := ((inferInstance : Kp wr W4.drew).out.mono (Nat.le_trans hn₀ hnx.size)).trans hk5
          gi_wp2
          go_roundw
          case rel => exact ⟨q + 1, by omega, by go_num, hJ5, hnx.trans hk6⟩
          case measure => simp [intOf]; omega
        | false =>
          have hx5 := hb2 rfl
          gi_wp2
          refine bodyPost_ret (results_none rfl _ _ _) rfl ?_
          exact ⟨⟨_, rfl⟩, .inr ⟨_, List.take_prefix _ _, hx5⟩⟩
    · obtain rfl : q = V.length := by omega
      gi_wp2
      go_end0
      exact ⟨⟨_, rfl⟩, .inl ⟨_, rfl, by rw [List.take_of_length_le (by simp)] at hJs; exact hJs⟩⟩
theorem edgesC {w : World} {a : Option Addr} {n c : Nat} : Calls Tryz.prog 145 #[.slice a n c] w fun e w' => e = .returned (.func (.func 202) #[] #[.pointer (some ⟨w.heap.size, 0, none⟩)]) ∧ w' = w.alloc (.cells #[.slice a n c] 131) := by
  go_enter Tryz.func145, Tryz.ntmps145
  go_wp2
  go_ret
  exact ⟨rfl, rfl⟩
theorem Calls.cEdges {P : Program} {f : FuncId} {args : Array Value} {w : World} {fe : Nat} {t : TypeId} {v : Value} {K : Ending → World → Prop} (h : Calls P f args w fun e w' => e = .returned (.func (.func fe) #[] #[.pointer (some ⟨w.heap.size, 0, none⟩)]) ∧ w' = w.alloc (.cells #[v] t))
    (hK : ∀ w' [Kp1 w w'] (b : Nat) [Bx w' b t [v]], K (.returned (.func (.func fe) #[] #[.pointer (some ⟨b, 0, none⟩)])) w') : Calls P f args w K := by
  refine h.mono ?_
  rintro e w' ⟨rfl, rfl⟩
  exact @hK _ ⟨blw_one _ _⟩ _ (inferInstance : Bx (w.alloc (.cells [v].toArray t (0, 0))) w.heap.size t [v])
theorem edges_stops (n : Nat) (hn : 1 ≤ n) (Br g c : Nat) (V : List FV) (hV : V.length ≤ 1000000) (w : World) {w0 : World} [hB : Bx w Br 131 [.slice (some ⟨g, 0, none⟩) V.length c]] [hA : At w g (rowF V) w0] :
    SeqStopsK Fence.wide n Tryz.prog 202 #[.pointer (some ⟨Br, 0, none⟩)] (encE V) (Below w.heap.size) (fun ys => ys = List.finRange V.length) (fun pre => pre <+: List.finRange V.length) V.length w := fun l J Jx W hW hJ _ hY h0 => by
  have kW : Kp1 w W := ⟨hW⟩
  exact edges1_in n hn l Br w.heap.size g c V hV hA.ltW hB.lt J Jx W hW.size hJ hY h0
/-- A range over the edges, whose variable lies in a box: the frame of a round is that at its beginning, with the slots pi and pe set, and i and e behind them. -/
theorem range_edges {n : Nat} {Q : Exit → Act → World → Prop} {w w0 : World} {go_ : Operand} {ps : Array Tmp} {assign body : Code} {Ts : Array Value} {Br g c : Nat} {V : List FV} (hn : 3 ≤ n) (hg : Act.eval { tmps := Ts, defers := [] } go_ = .func (.func 202) #[] #[.pointer (some ⟨Br, 0, none⟩)]) (hV : V.length ≤ 1000000)
    [hB : Bx w Br 131 [.slice (some ⟨g, 0, none⟩) V.length c]] [hA : At w g (rowF V) w0] (hps : ps.size = 2) (upd : Array Value → Fin V.length → Nat → Array Value)
    (I : List (Fin V.length) → World → Prop) (Ix : Code → List (Fin V.length) → World → Prop) (hI : OwnFrom w.heap.size I) (hIx : ∀ c, OwnFrom w.heap.size (Ix c)) (h0 : I [] w)
    (hassign : ∀ (l : Nat) (pre : List (Fin V.length)) (x : Fin V.length) (W : World) (K : Act → World → Prop), I pre W → (∀ W' b, W.heap.size = b → Kp W W' → Bx W' b 238 (edL V x.val) → K { tmps := upd Ts x b, defers := [] } W') →
      assign.wpIn (Fence.wide.inRound l) (n - 1 - 1) Tryz.prog (Exit.then K (fun _ _ _ => False)) { tmps := (ps.zip (encE V x)).foldl (fun t (p, v) => t.setIfInBounds p v) Ts, defers := [] } W)
    (hIb : ∀ pre W W', I pre W → Kp W W' → I pre W') (hIs : ∀ pre W, I pre W → w.heap.size ≤ W.heap.size)
    (hbody : ∀ (l : Nat) (pre : List (Fin V.length)) (x : Fin V.length) (b : Nat) (W : World), I pre W → w.heap.size ≤ b → Bx W b 238 (edL V x.val) → pre.length < V.length → body.wpIn (Fence.wide.inRound l) (n - 1 - 1) Tryz.prog (ownPostG w.heap.size (Below w.heap.size) I Ix (pre ++ [x]) W) { tmps := upd Ts x b, defers := [] } W)
    (hdone : ∀ (D : Nat) (W : World), w.heap.size ≤ D → I (List.finRange V.length) W → W.heap[D]? = some (.deferred (some [])) → Q .normal { tmps := Ts, defers := [{ target := .collected D, args := #[] }] } W)
    (hstop : ∀ (D : Nat) (c : Code) (pre : List (Fin V.length)) (W : World), w.heap.size ≤ D → pre <+: List.finRange V.length → Ix c pre W → W.heap[D]? = some (.deferred (some [])) → c.wpIn Fence.wide n Tryz.prog Q { tmps := Ts, defers := [{ target := .collected D, args := #[] }] } W) :
    (Code.rangeFunc go_ ps assign body).wp Tryz.prog Q { tmps := Ts, defers := [] } w := by
  refine (wpIn_wide (n := n)).1 ?_
  refine wpIn_rangeFunc_ownH rfl (by omega) hg trivial (enters_of Tryz.func202 (by kernel_rfl) rfl) (edges_stops (n - 1) (by omega) Br g c V hV w (w0 := w0)) belowK_t (belowK_b (Nat.le_refl _)) (Below.refl _ _) (fun _ => by rw [hps]; rfl)
    I Ix hI hIx h0 (fun x a' W => ∃ b, w.heap.size ≤ b ∧ Bx W b 238 (edL V x.val) ∧ a' = { tmps := upd Ts x b, defers := [] }) ?_ ?_ ?_ ?_ ?_
  · intro x a' s A B row ⟨b, h1, h2, h3⟩ hgr hr
    refine ⟨b, h1, ⟨?_⟩, h3⟩
    rw [hgr.block b h2.lt (fun e => ?_)]
    · exact h2.out
    · obtain ⟨_, o, ho, hc⟩ := hr b e.symm
      rw [h2.out] at ho
      cases ho
      cases hc
  · intro l pre x W K hi hK
    refine hassign l pre x W K hi (fun W' b hb hk hx => ?_)
    have hs := hIs _ _ hi
    exact hK _ _ ((KeepsOthers.of_grownBy (row := none) (below_gb hk.out) (fun j o e => by cases e)).from _) (hk.out.mono hs) (hIb _ _ _ hi hk) ⟨b, by omega, hx, rfl⟩
  · rintro l pre x a' W _ _ hi ⟨b, h1, h2, rfl⟩ hlt
    exact hbody l pre x b W hi h1 h2 hlt
  · rintro D xs W hD rfl hi hK
    exact hdone D W hD hi hK
  · exact hstop
end Go.Proofs.YtdlnoeegboapkaaGreatDoor

/- geo.RingOf at a valid ring. printed by a small program (mkrg4.py). -/
namespace Go.Proofs.YtdlnoeegboapkaaGreatDoor
open Go.RowKit
set_option maxRecDepth 100000
set_option maxHeartbeats 40000000
set_option synthInstance.maxSize 100000
set_option synthInstance.maxHeartbeats 1000000
set_option linter.unusedVariables false
attribute [local go_sem] Oper.semAt_some

/-- A function whose body holds a range over a function. -/
theorem calls_marks {P : Program} {f : FuncId} {fn : Func} {c : Code} {args : Array Value} {w : World} {R : Ending → World → Prop} (hf : P.funcs[f]? = some fn) (hb : fn.body = some c)
    (h : c.wp P (bodyPostM Fence.wide 5 P fn R) { tmps := args ++ Array.replicate (fn.ntmps - args.size) undef, defers := [] } w) : Calls P f args w R :=
  (callsIn_wide (n := 5)).1 (callsIn_of_wp_marks hf hb trivial ((wpIn_wide (n := 5)).2 h) rfl)
theorem retM_nil {P : Program} {fn : Func} {R : Ending → World → Prop} {a : Act} {w : World} (h : bodyPost P fn R .ret a w) : bodyPostM Fence.wide 5 P fn R .ret a w := by
  obtain ⟨h1, v, h2, h3⟩ := h
  show LeavesInM _ _ _ _ _ _ a.defers .returning w
  rw [h1]
  exact ⟨v, h2, h3⟩
theorem retM_mark {P : Program} {fn : Func} {R : Ending → World → Prop} {a : Act} {w : World} {D : Nat} (hd : a.defers = [{ target := .collected D, args := #[] }]) (hK : w.heap[D]? = some (.deferred (some [])))
    (h : bodyPost P fn R .ret { a with defers := [] } (w.putObj D (.deferred none))) : bodyPostM Fence.wide 5 P fn R .ret a w := by
  obtain ⟨_, v, h2, h3⟩ := h
  show LeavesInM _ _ _ _ _ _ a.defers .returning w
  rw [hd]
  exact ⟨by simp, .inl ⟨_, _, rfl, run_takeDeferred hK, v, h2, h3⟩⟩
theorem inR {l n : Nat} {P : Program} {f : FuncId} {args : Array Value} {W : World} {K : Ending → World → Prop} (h : Calls P f args W K) : CallsIn (Fence.wide.inRound l) n P f args W K := CallsIn.inRound l (callsIn_wide.2 h)
theorem keepsK {B : Nat} {W W' : World} (h : Kp W W') : KeepsFrom B W W' := (KeepsOthers.of_grownBy (row := none) (below_gb h.out) (fun j o e => by cases e)).from _
/-- From W to W2 just a block for deferred calls, D, was shut. -/
class Dp1 (W : outParam World) (W2 : World) (D : outParam Nat) : Prop where
  eq : W2 = W.putObj D (.deferred none)
  was : ∃ x, W.heap[D]? = some (.deferred x)
section
variable {W W2 w0 w : World} {D : Nat}
theorem Dp1.size (k : Dp1 W W2 D) : W2.heap.size = W.heap.size := by rw [k.eq]; simp [World.putObj]
theorem Dp1.block (k : Dp1 W W2 D) {b : Nat} (h : b ≠ D) : W2.heap[b]? = W.heap[b]? := by
  rw [k.eq]; simp only [World.putObj, Array.getElem?_setIfInBounds]
  rw [if_neg (fun e => h e.symm)]
theorem Dp1.cells (k : Dp1 W W2 D) {b : Nat} {l : Array Value} {t : TypeId} {z : Nat × Nat} (h : W.heap[b]? = some (.cells l t z)) : W2.heap[b]? = some (.cells l t z) := by
  obtain ⟨x, hx⟩ := k.was
  rw [k.block (fun e => by rw [e, hx] at h; cases h)]
  exact h
theorem Dp1.cell (k : Dp1 W W2 D) {a : Addr} {v : Value} (h : W.cell? a = some v) : W2.cell? a = some v := by
  obtain ⟨x, hx⟩ := k.was
  have hb : W2.heap[a.block]? = W.heap[a.block]? := k.block (fun e => by
    unfold World.cell? at h
    rw [e, hx] at h
    simp at h)
  unfold World.cell? at h ⊢
  rw [hb]
  exact h
theorem Rd.dp {v : Value} {l : List Nat} (h : Rd W v l) (k : Dp1 W W2 D) : Rd W2 v l := by
  obtain ⟨a, cap, rfl, h1, h2, h3, h4⟩ := h
  refine ⟨a, cap, rfl, h1, h2, h3, fun h0 => ?_⟩
  obtain ⟨b, off, rfl, hcell⟩ := h4 h0
  exact ⟨b, off, rfl, fun j hj => k.cell (hcell j hj)⟩
theorem Pres.dp (k : Dp1 W W2 D) : Pres W W2 := ⟨fun h => ⟨h.1.dp k, h.2⟩, fun h => by obtain ⟨l, h1, h2⟩ := h; exact ⟨l, h1.dp k, h2⟩, fun {b l} y => k.cells y⟩
instance (priority := low) CN.dp {v : Value} {n k : Nat} [b : Dp1 W W2 D] [h : CN W v n k] : CN W2 v n k := ⟨(Pres.dp b).nn h.out⟩
instance (priority := low) CQ.dp {v : Value} {q : Rat} {k : Nat} [b : Dp1 W W2 D] [h : CQ W v q k] : CQ W2 v q k := ⟨h.out.map (Pres.dp b)⟩
instance (priority := low) CA.dp {v : Value} {q : Rat} {k : Nat} [b : Dp1 W W2 D] [h : CA W v q k] : CA W2 v q k := ⟨h.out.map (Pres.dp b)⟩
instance (priority := low) CF.dp {v : Value} {q : Rat} {k : Nat} [b : Dp1 W W2 D] [h : CF W v q k] : CF W2 v q k := ⟨h.out.map (Pres.dp b)⟩
instance (priority := low) Bx.dp {b : Nat} {t : TypeId} {l : List Value} [k : Dp1 W W2 D] [h : Bx W b t l] : Bx W2 b t l := ⟨k.cells h.out⟩
instance (priority := low) At.dp {g : Nat} {xs : List Value} [k : Dp1 W W2 D] [h : At W g xs w0] : At W2 g xs w0 := ⟨fun j u hu => k.cell (h.out j u hu), h.lt, by rw [k.size]; exact h.ltW⟩
instance (priority := low) Sl.dp {v : Value} {n : Nat} {xs : List Value} [k : Dp1 W W2 D] [h : Sl W v n xs w0] : Sl W2 v n xs w0 := by
  refine ⟨?_, h.lt, by rw [k.size]; exact h.ltW⟩
  rcases h.out with e | ⟨g, c, e, hn, hc⟩
  · exact .inl e
  · exact .inr ⟨g, c, e, hn, fun j u hu => k.cell (hc j u hu)⟩
instance (priority := low) Kp.dp [k : Dp1 W W2 D] [h : Kp w W] [n : Ge w D] : Kp w W2 := ⟨h.out.trans (by
  obtain ⟨x, hx⟩ := k.was
  rw [k.eq]
  exact ⟨rfl, rfl, rfl, by simp [World.putObj], fun i hi => by
    simp only [World.putObj, Array.getElem?_setIfInBounds]
    rw [if_neg (by have := n.out; omega)]⟩)⟩
instance PsF.dp {V : List FV} {L : List (Rat × Rat)} {k : Nat} [b : Dp1 W W2 D] [h : PsF W V L k] : PsF W2 V L k := ⟨h.len, fun i hi => by have := h.x i hi; infer_instance, fun i hi => by have := h.y i hi; infer_instance⟩
end
instance : BoxT 131 := by constructor <;> decide
instance : BoxT 238 := by constructor <;> decide
theorem def_set {W : World} {q i D : Nat} {x : Value} {y : Option (List Deferred)} (h : W.heap[D]? = some (.deferred y)) (hn : q ≠ D) : (W.setCell ⟨q, i, none⟩ x).heap[D]? = some (.deferred y) := by
  simp only [World.setCell, Array.getElem?_modify]
  rw [if_neg hn]; exact h
theorem load_one {P : Program} {W : World} {b : Nat} {ty t : TypeId} {d : TypeDesc} {v : Value} {l : List Value} [h : Bx W b t (v :: l)] (hu : P.underlying ty = some d) (hd : (match d with | .struct _ | .array _ _ => true | _ => false) = false) : (loadVar ty ⟨b, 0, none⟩).run P W = .ok v W := by
  have hagg : (isAgg ty).run P W = .ok false W := by
    unfold isAgg
    rw [Sem.run_bind, run_underlying hu W]
    cases d <;> simp_all
  have hc : W.cell? ⟨b, 0, none⟩ = some v := by rw [cell_bx]; rfl
  simp [loadVar, hagg, hc]
theorem ret_cc {P : Program} {fn : Func} {R : Ending → World → Prop} {a : Act} {W : World} {p q : Tmp} {ty ty2 : TypeId} {b1 b2 : Nat} {v1 v2 : Value} (hr : fn.results = #[.cell p ty, .cell q ty2])
    (hp : a.tmps.getD p undef = .pointer (some ⟨b1, 0, none⟩)) (hq : a.tmps.getD q undef = .pointer (some ⟨b2, 0, none⟩)) (h1 : (loadVar ty ⟨b1, 0, none⟩).run P W = .ok v1 W) (h2 : (loadVar ty2 ⟨b2, 0, none⟩).run P W = .ok v2 W)
    (hdf : a.defers = []) (hR : R (.returned (.tuple #[v1, v2])) W) : bodyPost P fn R .ret a W := by
  refine ⟨hdf, _, ?_, hR⟩
  have hp' : a.tmps[p]?.getD undef = .pointer (some ⟨b1, 0, none⟩) := by simpa using hp
  have hq' : a.tmps[q]?.getD undef = .pointer (some ⟨b2, 0, none⟩) := by simpa using hq
  simp [results, hr, hp', hq', asAddr, h1, h2]
/-- The end of a walk: a slice and an error, each out of its box. -/
theorem ret_se {P : Program} {fn : Func} {R : Ending → World → Prop} {a : Act} {W : World} {p q : Tmp} {ty ty2 t1 t2 : TypeId} {d d2 : TypeDesc} {b1 b2 : Nat} {v1 v2 : Value} [i1 : Bx W b1 t1 [v1]] [i2 : Bx W b2 t2 [v2]] (hr : fn.results = #[.cell p ty, .cell q ty2])
    (hu : P.underlying ty = some d) (hd : (match d with | .struct _ | .array _ _ => true | _ => false) = false) (hu2 : P.underlying ty2 = some d2) (hd2 : (match d2 with | .struct _ | .array _ _ => true | _ => false) = false)
    (hp : a.tmps.getD p undef = .pointer (some ⟨b1, 0, none⟩)) (hq : a.tmps.getD q undef = .pointer (some ⟨b2, 0, none⟩)) (hdf : a.defers = []) (hR : R (.returned (.tuple #[v1, v2])) W) : bodyPost P fn R .ret a W :=
  ret_cc hr hp hq (load_one hu hd) (load_one hu2 hd2) hdf hR
theorem ringOfOk {w w0 : World} {a : Option Addr} {n c : Nat} {V : List AV} {L : List (Rat × Rat)} {k : Nat} [hs : Sl w (.slice a n c) V.length (rowA V) w0] [hp : PsA w V L k] (b : k ≤ 19000) (hV : V.length ≤ 4096) (hR : RingOK L) :
    Calls Tryz.prog 77 #[.slice a n c] w (PsFEr w L (k + 2)) := by
  obtain rfl := hs.len
  have hlen := Lib.hid hp.len
  have hpos : 0 < V.length := by rw [hlen.out]; exact hR.pos
  have HR := Lib.hid hR
  clear hR
  obtain ⟨g, rfl, hA⟩ := hs.form hpos
  have hno : ¬ (4096 < (V.length : Int)) := by omega
  refine calls_marks Tryz.func77 rfl ?_
  simp only [Tryz.ntmps77, List.size_toArray, List.length_cons, List.length_nil, Nat.reduceAdd, Nat.reduceSub, Array.replicate_succ, Array.replicate_zero, List.push_toArray, List.append_toArray, List.nil_append, List.cons_append]
  go_wp2_with fail
  go_loopw [21, 4] (fun i o wr => ∃ (q : Nat) (U : List FV), i = .int .i64 (q : Int) ∧ q ≤ V.length ∧ Rn wr o 152 6 U.length (rowF U) (w.heap.size + 1 + 1) wr ∧ Hid (U.length = q) ∧ PsF wr U (L.take q) (k + 2) ∧ Bx wr w.heap.size 131 [.slice none 0 0] ∧ Bx wr (w.heap.size + 1) 36 [.nilIface] ∧ Kp w wr) (fun i _ _ => V.length - (intOf i).toNat)
  case atStart => exact ⟨0, [], rfl, by omega, Rn.nil (by simp), Lib.hid rfl, PsF.nil, inferInstance, inferInstance, inferInstance⟩
  case round =>
    obtain ⟨q, U, rfl, hq, i1, hU, i2, i3, i4, i5⟩ := hrel
    have kw := Kp1.mk i5.out
    by_cases hlt : q < V.length
    · have hlt' : (q : Int) < V.length := by omega
      have lq : LtN q V.length := ⟨hlt⟩
      have ew : IntKind.i64.wrap ((q : Int) + 1) = (q : Int) + 1 := wr_in (by omega) (by omega)
      go_wp2_with (first
        | (go_at_call 142; (with_reducible refine Calls.cE (gNormalA (by omega)) ?_); intros)
        | (go_at_call 123; (with_reducible refine Calls.cPF (ptOfC (by omega)) ?_); intro w1 _ nx dx px ny dy py i7 i8)
        | (at_builtin; go_loud (refine app_rn1 (v := u4) rfl (.tmp 37) (.tmp 40) 131 rfl Tryz.underlying131 info_f rfl (by decide) (by decide) (by decide) inferInstance rfl (rowF_nd _) rfl (by rfl) ?h1 ?h2 (by first | omega | (have := hU.out; omega)) ?_); (case h1 => exact FV.one ⟨_, _, _, _, _, _⟩); (case h2 => exact FV.nd ⟨_, _, _, _, _, _⟩); intro g2 c2 w2 i9 i10 i11))
      go_roundw
      case rel => exact ⟨q + 1, U ++ [⟨nx, dx, px, ny, dy, py⟩], by go_num, by omega, Rn.cast2 (inferInstance) (by simp) (by rw [rowF_snoc]; rfl), Lib.hid (by rw [List.length_append, hU.out]; rfl), by rw [take_pg (by have := hlen.out; omega)]; exact PsF.add (by first | omega | simp) (by first | omega | simp), inferInstance, inferInstance, inferInstance⟩
      case measure => simp [intOf]; omega
    · obtain rfl : q = V.length := by omega
      rw [List.take_of_length_le (by have := hlen.out; omega)] at i2
      have hUl : Hid (U.length = L.length) := Lib.hid (hU.out.trans hlen.out)
      have hU4 : U.length ≤ 4096 := by rw [hU.out]; exact hV
      have hU0 : 0 < U.length := by rw [hU.out]; exact hpos
      clear hU hs hq hlt hA
      obtain ⟨a3, c3, rfl⟩ := i1.slice
      obtain ⟨g2, rfl, hA2⟩ := (Sl.ofRn (h := i1)).form hU0
      go_wp2_with fail
      go_loopw [45, 7] (fun i d wx => ∃ (q m : Nat), i = .int .i64 (q : Int) ∧ q ≤ U.length ∧ d = .int .i64 (m : Int) ∧ Hid (min 3 (dsc L q) = m) ∧ Kp wr wx) (fun i _ _ => U.length - (intOf i).toNat)
      case atStart => exact ⟨0, 0, rfl, by omega, rfl, Lib.hid rfl, inferInstance⟩
      case round =>
        obtain ⟨q, m, rfl, hq, rfl, hm, j1⟩ := hrel
        have kx := Kp1.mk j1.out
        have hm3 : m ≤ 3 := by rw [← hm.out]; omega
        by_cases hlt : q < U.length
        · have hlt' : (q : Int) < U.length := by omega
          have lq : LtN q U.length := ⟨hlt⟩
          have ew : IntKind.i64.wrap ((q : Int) + 1) = (q : Int) + 1 := wr_in (by omega) (by omega)
          have em : IntKind.i64.wrap ((m : Int) + 1) = (m : Int) + 1 := wr_in (by omega) (by omega)
          by_cases h3 : m < 3
          · have h3' : (m : Int) < 3 := by omega
            by_cases hn : pg L q ∈ L.take q
            · go_wp2_with (first
                | (go_at_call 144; go_loud ((with_reducible refine Calls.cFirst (firstC (V := U) (by omega) (by omega) ⟨q, hlt, rfl⟩) ?_); intro w1 _ m1 hm1); have hne : ¬ ((m1 : Int) = (q : Int)) := fun e => (FirstAt.new (by rw [← hUl.out]; exact hlt) hm1).1 (by omega) hn; have hne2 : ((m1 : Int) == (q : Int)) = false := beq_false_of_ne hne; clear hm1))
              go_roundw
              case rel => exact ⟨q + 1, m, by go_num, by omega, rfl, Lib.hid (by have h2 := hm.out; simp only [dsc, if_pos hn]; omega), inferInstance⟩
              case measure => simp [intOf]; omega
            · go_wp2_with (first
                | (go_at_call 144; (with_reducible refine Calls.cFirst (firstC (V := U) (by omega) (by omega) ⟨q, hlt, rfl⟩) ?_); intro w1 _ m1 hm1; obtain rfl : m1 = q := (FirstAt.new (by rw [← hUl.out]; exact hlt) hm1).2 hn; clear hm1))
              go_roundw
              case rel => exact ⟨m1 + 1, m + 1, by go_num, by omega, by go_num, Lib.hid (by have h2 := hm.out; simp only [dsc, if_neg hn]; omega), inferInstance⟩
              case measure => simp [intOf]; omega
          · obtain rfl : m = 3 := by omega
            go_wp2_with fail
            go_roundw
            case rel => exact ⟨q + 1, 3, by go_num, by omega, rfl, Lib.hid (by have h2 := hm.out; have := dsc_mono L (show q ≤ q + 1 by omega); omega), inferInstance⟩
            case measure => simp [intOf]; omega
        · obtain rfl : q = U.length := by omega
          have h3 : m = 3 := by have := HR.out.three; rw [← hUl.out] at this; have := hm.out; omega
          subst h3
          go_wp2_with (first
            | (go_at_call 145; (with_reducible refine Calls.cEdges edgesC ?_); intro w1 _ br _))
          refine range_edges (n := 5) (by omega) rfl (by omega) (V := U) (Br := br) (g := g2) (c := c3) rfl (fun T x b => (((T.setIfInBounds 70 (.int .i64 (x.val : Int))).setIfInBounds 71 (.agg (edL U x.val).toArray)).setIfInBounds 10 (.int .i64 (x.val : Int))).setIfInBounds 11 (.pointer (some ⟨b, 0, none⟩)))
            (fun _ W => Below w1.heap.size w1 W) (fun _ _ _ => False) (ownFrom_below (Nat.le_refl _) (Nat.le_refl _)) (fun _ _ _ _ _ h _ _ => h.elim) (Below.refl _ _) ?assign (fun _ _ _ h k => blw_trans h k.out) (fun _ _ h => h.size) ?body ?done ?stop
          case assign =>
            intro l pre x W K hI hK
            simp only [encE, edL, List.zip_toArray, List.zip_cons_cons, List.zip_nil_right, List.foldl_toArray, List.foldl_cons, List.foldl_nil, List.setIfInBounds_toArray, List.set_cons_zero, List.set_cons_succ]
            simp only [edL, List.setIfInBounds_toArray, List.set_cons_zero, List.set_cons_succ] at hK
            gi_wp2
            refine hK _ _ rfl ?_ ?_
            · infer_instance
            · exact Bx.re rfl
          case body =>
            intro l pre x b W hI hb hx hlt9
            have kw1 := Kp1.mk hI
            obtain ⟨m, hm0⟩ : ∃ m, (x.val + 1) % U.length = m := ⟨_, rfl⟩
            have lq : LtN x.val U.length := ⟨x.isLt⟩
            have lm : LtN m U.length := ⟨by rw [← hm0]; exact Nat.mod_lt _ (by omega)⟩
            have hv : Hid (decide (((pg L x.val).1, (pg L x.val).2) = ((pg L m).1, (pg L m).2)) = false) := Lib.hid (by
              have := HR.out.edge x.val (by rw [← hUl.out]; exact x.isLt)
              rw [← hUl.out, hm0] at this
              exact decide_eq_false (show ¬ _ from this))
            dsimp only [edL] at hx ⊢
            rw [hm0] at hx ⊢
            simp only [List.setIfInBounds_toArray, List.set_cons_zero, List.set_cons_succ]
            gi_wp2_with (first
              | (refine ⟨trivial, ?_⟩; gi_at_call 108; (refine inR ?_); (with_reducible refine Calls.cE (ptEqualV (by omega) hv) ?_); intros))
            exact ⟨keepsK inferInstance, (inferInstance : Kp W _).out.mono hI.size, blw_trans hI (inferInstance : Kp W _).out⟩
          case done =>
            intro D W hD hI hK
            have kw1 := Kp1.mk hI
            have gd : Ge w D := ⟨Nat.le_trans (inferInstance : Kp w w1).out.size hD⟩
            have g0 : w.heap.size + 1 < D := Nat.lt_of_lt_of_le (i4.lt) (Nat.le_trans (Nat.le_trans j1.out.size (inferInstance : Kp wr w1).out.size) hD)
            go_wp2
            refine retM_mark (D := D) rfl (def_set (def_set hK (by omega)) (by omega)) ?_
            have kd : Dp1 ((W.setCell ⟨w.heap.size, 0, none⟩ (.slice (some ⟨g2, 0, none⟩) U.length c3)).setCell ⟨w.heap.size + 1, 0, none⟩ .nilIface) _ D := ⟨rfl, _, def_set (def_set hK (by omega)) (by omega)⟩
            refine ret_se rfl Tryz.underlying131 rfl Tryz.underlying36 rfl rfl rfl rfl ?_
            exact PsFEr.fin (V := U) rfl (Nat.le_refl _)
          case stop => exact fun _ _ _ _ _ _ h _ => h.elim
end Go.Proofs.YtdlnoeegboapkaaGreatDoor

/- The area of a ring, its rotations and its reverse, convex rings: plain facts. -/
namespace Go.Proofs.YtdlnoeegboapkaaGreatDoor
open Go.RowKit

def sumN (f : Nat → Rat) : Nat → Rat
  | 0 => 0
  | n + 1 => sumN f n + f n
theorem sumN_congr {f g : Nat → Rat} {n : Nat} (h : ∀ i, i < n → f i = g i) : sumN f n = sumN g n := by
  induction n with
  | zero => rfl
  | succ n ih => rw [sumN, sumN, ih (fun i hi => h i (by omega)), h n (by omega)]
theorem sumN_head (f : Nat → Rat) (n : Nat) : sumN f (n + 1) = f 0 + sumN (fun i => f (i + 1)) n := by
  induction n with
  | zero => simp only [sumN]; grind
  | succ n ih => rw [sumN, ih, sumN]; grind
theorem sumN_rev (f : Nat → Rat) (n : Nat) : sumN (fun i => f (n - 1 - i)) n = sumN f n := by
  induction n generalizing f with
  | zero => rfl
  | succ n ih =>
    rw [sumN_head f n, ← ih (fun i => f (i + 1)), sumN]
    have e : sumN (fun i => f (n + 1 - 1 - i)) n = sumN (fun i => f (n - 1 - i + 1)) n := sumN_congr fun i hi => by
      rw [show n + 1 - 1 - i = n - 1 - i + 1 by omega]
    rw [e, show n + 1 - 1 - n = 0 by omega]; grind
theorem sumN_neg (f : Nat → Rat) (n : Nat) : sumN (fun i => -f i) n = -sumN f n := by
  induction n with
  | zero => simp [sumN]
  | succ n ih => rw [sumN, sumN, ih]; grind
/-- A function of period n: the sum over a period does not depend on where it begins. -/
theorem sumN_per {f : Nat → Rat} {n : Nat} (h : ∀ i, f (i + n) = f i) (k : Nat) : sumN (fun i => f (i + k)) n = sumN f n := by
  induction k with
  | zero => rfl
  | succ k ih =>
    rw [← ih]
    have h1 := sumN_head (fun i => f (i + k)) n
    have h2 : sumN (fun i => f (i + k)) (n + 1) = sumN (fun i => f (i + k)) n + f (n + k) := rfl
    have h3 : f (n + k) = f (0 + k) := by rw [show n + k = 0 + k + n by omega, h]
    have h4 : sumN (fun i => f (i + 1 + k)) n = sumN (fun i => f (i + (k + 1))) n := sumN_congr fun i hi => by rw [show i + 1 + k = i + (k + 1) by omega]
    grind
def crs (p q : Rat × Rat) : Rat := p.1 * q.2 - p.2 * q.1
/-- The vertex i, counted around. -/
def pc (L : List (Rat × Rat)) (i : Nat) : Rat × Rat := pg L (i % L.length)
theorem pc_lt {L : List (Rat × Rat)} {i : Nat} (h : i < L.length) : pc L i = pg L i := by rw [pc, Nat.mod_eq_of_lt h]
theorem pc_per (L : List (Rat × Rat)) (i : Nat) : pc L (i + L.length) = pc L i := by rw [pc, Nat.add_mod_right, pc]
/-- Twice the area of the first q edges. -/
def sumC (L : List (Rat × Rat)) (q : Nat) : Rat := sumN (fun i => crs (pc L i) (pc L (i + 1))) q
theorem sumC_succ {L : List (Rat × Rat)} {q : Nat} (h : q < L.length) : sumC L (q + 1) = sumC L q + crs (pg L q) (pg L ((q + 1) % L.length)) := by
  rw [sumC, sumN, ← sumC, pc_lt h, pc]
def areaL (L : List (Rat × Rat)) : Rat := sumC L L.length / 2
/-! ### Rotations -/
theorem rot_pc {L : List (Rat × Rat)} {k : Nat} (hk : k < L.length) (i : Nat) : pc (rot L k) i = pc L (i + k) := by
  have h0 : 0 < L.length := by omega
  rw [pc, rot_len]
  have hm : i % L.length < L.length := Nat.mod_lt _ h0
  rw [pg_get (by rw [rot_len]; exact hm)]
  unfold rot
  by_cases hc : i % L.length < L.length - k
  · rw [List.getElem_append_left (by rw [List.length_drop]; exact hc), List.getElem_drop]
    have e : (i + k) % L.length = k + i % L.length := by
      rw [Nat.add_mod, Nat.mod_eq_of_lt hk, Nat.add_comm, Nat.mod_eq_of_lt (by omega)]
    rw [pc, e, pg_get]
  · rw [List.getElem_append_right (by rw [List.length_drop]; omega)]
    rw [List.getElem_take]
    have e : (i + k) % L.length = i % L.length - (L.drop k).length := by
      rw [List.length_drop, Nat.add_mod, Nat.mod_eq_of_lt hk]
      rw [show i % L.length + k = i % L.length - (L.length - k) + L.length by omega, Nat.add_mod_right, Nat.mod_eq_of_lt (by omega)]
    rw [pc, e, pg_get]
theorem area_rot {L : List (Rat × Rat)} {k : Nat} (hk : k < L.length) : areaL (rot L k) = areaL L := by
  rw [areaL, areaL, sumC, sumC, rot_len]
  congr 1
  have := sumN_per (f := fun i => crs (pc L i) (pc L (i + 1))) (n := L.length) (fun i => by
    show crs (pc L (i + L.length)) (pc L (i + L.length + 1)) = _
    rw [pc_per, show i + L.length + 1 = i + 1 + L.length by omega, pc_per]) k
  rw [← this]
  exact sumN_congr fun i _ => by
    rw [rot_pc hk, rot_pc hk, show i + 1 + k = i + k + 1 by omega]
theorem bst_rot (L : List (Rat × Rat)) : ∀ i, i ≤ L.length → bst L i = L ∨ ∃ k, k < L.length ∧ bst L i = rot L k := by
  intro i
  induction i with
  | zero => exact fun _ => .inl rfl
  | succ i ih =>
    intro hi
    rw [bst]
    split
    · exact .inr ⟨i, by omega, rfl⟩
    · exact ih (by omega)
theorem area_canon (L : List (Rat × Rat)) : areaL (canonL L) = areaL L := by
  rcases bst_rot L L.length (Nat.le_refl _) with h | ⟨k, hk, h⟩
  · rw [canonL, h]
  · rw [canonL, h, area_rot hk]
/-! ### The reverse -/
def revL : List (Rat × Rat) → List (Rat × Rat)
  | [] => []
  | p :: L => p :: L.reverse
theorem revL_len (L : List (Rat × Rat)) : (revL L).length = L.length := by cases L <;> simp [revL]
theorem revL_revL (L : List (Rat × Rat)) : revL (revL L) = L := by cases L <;> simp [revL]
theorem revL_pc {L : List (Rat × Rat)} {i : Nat} (h : i ≤ L.length) (h0 : 0 < L.length) : pc (revL L) i = pc L (L.length - i) := by
  cases L with
  | nil => simp at h0
  | cons p M =>
    rcases Nat.eq_zero_or_pos i with rfl | hp
    · rw [Nat.sub_zero]
      rw [show (p :: M).length = 0 + (p :: M).length by omega, pc_per, pc, pc]
      simp [revL, pg]
    · rcases Nat.lt_or_ge i (p :: M).length with hlt | hge
      · rw [pc_lt (by rw [revL_len]; exact hlt), pc_lt (by omega), pg_get (by rw [revL_len]; exact hlt), pg_get (by omega)]
        simp only [revL]
        simp only [List.length_cons] at hlt
        obtain ⟨j, rfl⟩ : ∃ j, i = j + 1 := ⟨i - 1, by omega⟩
        rw [List.getElem_cons_succ, List.getElem_reverse]
        have e : (p :: M).length - (j + 1) = (M.length - 1 - j) + 1 := by simp only [List.length_cons]; omega
        simp only [e, List.getElem_cons_succ]
      · have e : i = (p :: M).length := by omega
        rw [e, Nat.sub_self, pc, pc, revL_len, Nat.mod_self, Nat.zero_mod]
        simp [revL, pg]
theorem area_rev (L : List (Rat × Rat)) : areaL (revL L) = -areaL L := by
  rcases Nat.eq_zero_or_pos L.length with h0 | h0
  · have : L = [] := List.eq_nil_of_length_eq_zero h0
    subst this
    simp only [areaL, sumC, sumN, revL, List.length_nil]; decide +kernel
  · have h : sumC (revL L) L.length = -sumC L L.length := by
      rw [sumC, sumC, ← sumN_neg, ← sumN_rev (fun i => -crs (pc L i) (pc L (i + 1)))]
      refine sumN_congr fun i hi => ?_
      show crs (pc (revL L) i) (pc (revL L) (i + 1)) = -crs (pc L (L.length - 1 - i)) (pc L (L.length - 1 - i + 1))
      rw [revL_pc (by omega) h0, revL_pc (by omega) h0, show L.length - (i + 1) = L.length - 1 - i by omega, show L.length - 1 - i + 1 = L.length - i by omega]
      unfold crs; grind
    rw [areaL, areaL, revL_len, h]
    grind
/-! ### Convex rings -/
def det3 (p q r : Rat × Rat) : Rat := (q.1 - p.1) * (r.2 - p.2) - (q.2 - p.2) * (r.1 - p.1)
theorem det3_or (p q r : Rat × Rat) : orientR p.1 p.2 q.1 q.2 r.1 r.2 = isgn (det3 p q r).num := rfl
theorem or_pos {p q r : Rat × Rat} : 0 < orientR p.1 p.2 q.1 q.2 r.1 r.2 ↔ 0 < det3 p q r := by
  rw [det3_or]
  rw [← isg_pos]
  have := isgn_bd (det3 p q r).num
  omega
/-- All other vertices lie on the left side of every edge. -/
def CvxL (L : List (Rat × Rat)) : Prop := ∀ i, i < L.length → ∀ k, k < L.length → k ≠ i → k ≠ (i + 1) % L.length → 0 < det3 (pg L i) (pg L ((i + 1) % L.length)) (pg L k)
theorem cvx_part {L : List (Rat × Rat)} {q : Nat} (hq : q ≤ L.length) : sumC L q = sumN (fun i => det3 (pc L 0) (pc L i) (pc L (i + 1))) q + crs (pc L 0) (pc L q) := by
  induction q with
  | zero => simp [sumC, sumN, crs]; grind
  | succ q ih =>
    rw [sumC, sumN, ← sumC, ih (by omega), sumN]
    unfold crs det3; grind
theorem sumN_nonneg {f : Nat → Rat} {n : Nat} (h : ∀ i, i < n → 0 ≤ f i) : 0 ≤ sumN f n := by
  induction n with
  | zero => simp [sumN]
  | succ n ih => rw [sumN]; have := ih (fun i hi => h i (by omega)); have := h n (by omega); grind
theorem sumN_pos {f : Nat → Rat} {n j : Nat} (h : ∀ i, i < n → 0 ≤ f i) (hj : j < n) (hp : 0 < f j) : 0 < sumN f n := by
  induction n with
  | zero => omega
  | succ n ih =>
    rw [sumN]
    by_cases e : j = n
    · subst e
      have := sumN_nonneg (f := f) (n := j) (fun i hi => h i (by omega))
      grind
    · have := ih (fun i hi => h i (by omega)) (by omega)
      have := h n (by omega)
      grind
theorem cvx_det {L : List (Rat × Rat)} (h : CvxL L) {i : Nat} (hi : i < L.length) (h1 : i ≠ 0) (h2 : i + 1 ≠ L.length) : 0 < det3 (pc L 0) (pc L i) (pc L (i + 1)) := by
  have hm : (i + 1) % L.length = i + 1 := Nat.mod_eq_of_lt (by omega)
  have := h i hi 0 (by omega) (Ne.symm h1) (by rw [hm]; omega)
  rw [hm] at this
  rw [pc_lt (by omega), pc_lt hi, pc_lt (by omega)]
  unfold det3 at this ⊢; grind
theorem cvx_area {L : List (Rat × Rat)} (h : CvxL L) (h3 : 3 ≤ L.length) : 0 < areaL L := by
  have hs := cvx_part (L := L) (Nat.le_refl _)
  have h0 : crs (pc L 0) (pc L L.length) = 0 := by
    rw [show L.length = 0 + L.length by omega, pc_per]
    unfold crs; grind
  have hp : 0 < sumN (fun i => det3 (pc L 0) (pc L i) (pc L (i + 1))) L.length := by
    refine sumN_pos (j := 1) (fun i hi => ?_) (by omega) (cvx_det h (by omega) (by omega) (by omega))
    by_cases e0 : i = 0
    · subst e0
      have : det3 (pc L 0) (pc L 0) (pc L (0 + 1)) = 0 := by unfold det3; grind
      rw [this]; exact Rat.le_refl
    · by_cases e1 : i + 1 = L.length
      · have : det3 (pc L 0) (pc L i) (pc L (i + 1)) = 0 := by
          rw [e1, show L.length = 0 + L.length by omega, pc_per]
          unfold det3; grind
        rw [this]; exact Rat.le_refl
      · exact Rat.le_of_lt (cvx_det h hi e0 e1)
  rw [areaL, hs, h0]
  grind
theorem cvx_turn {L : List (Rat × Rat)} (h : CvxL L) (h3 : 3 ≤ L.length) {i : Nat} (hi : i < L.length) : 0 < det3 (pg L ((i + L.length - 1) % L.length)) (pg L i) (pg L ((i + 1) % L.length)) := by
  by_cases e0 : i = 0
  · subst e0
    have hm : (0 + L.length - 1) % L.length = L.length - 1 := by rw [Nat.zero_add, Nat.mod_eq_of_lt (by omega)]
    have hm1 : (0 + 1) % L.length = 1 := Nat.mod_eq_of_lt (by omega)
    have hm2 : (L.length - 1 + 1) % L.length = 0 := by rw [show L.length - 1 + 1 = L.length by omega, Nat.mod_self]
    have := h (L.length - 1) (by omega) 1 (by omega) (by omega) (by rw [hm2]; omega)
    rw [hm2] at this
    rw [hm, hm1]; exact this
  · have hm : (i + L.length - 1) % L.length = i - 1 := by
      rw [show i + L.length - 1 = i - 1 + L.length by omega, Nat.add_mod_right, Nat.mod_eq_of_lt (by omega)]
    rw [hm]
    have hm2 : (i - 1 + 1) % L.length = i := by rw [show i - 1 + 1 = i by omega, Nat.mod_eq_of_lt hi]
    have := h (i - 1) (by omega) ((i + 1) % L.length) (Nat.mod_lt _ (by omega)) (by
      rcases Nat.lt_or_ge (i + 1) L.length with hl | hg
      · rw [Nat.mod_eq_of_lt hl]; omega
      · have : i + 1 = L.length := by omega
        rw [this, Nat.mod_self]; omega) (by
      rw [hm2]
      rcases Nat.lt_or_ge (i + 1) L.length with hl | hg
      · rw [Nat.mod_eq_of_lt hl]; omega
      · have : i + 1 = L.length := by omega
        rw [this, Nat.mod_self]; omega)
    rw [hm2] at this
    exact this
end Go.Proofs.YtdlnoeegboapkaaGreatDoor

/- The listed variables of the rows of layer 9: the sentinels. -/
namespace Go.Proofs.YtdlnoeegboapkaaGreatDoor
open Go Go.RowKit

theorem Tryz.gI : Tryz.prog.globalNamed "bspregion/api.ErrInvalid" = some 4 := by kernel_rfl
theorem Tryz.gRi : Tryz.prog.globalNamed "bspregion/api.ErrRing" = some 3 := by kernel_rfl
theorem Tryz.gLi : Tryz.prog.globalNamed "bspregion/api.ErrLimit" = some 2 := by kernel_rfl
theorem Tryz.gIt : (Tryz.prog.globals[4]?).map (·.type) = some 36 := by kernel_rfl
theorem Tryz.gRit : (Tryz.prog.globals[3]?).map (·.type) = some 36 := by kernel_rfl
theorem Tryz.gLit : (Tryz.prog.globals[2]?).map (·.type) = some 36 := by kernel_rfl
theorem Tryz.rcellsEs : Tryz.prog.cellsOf 388 = 1 := by kernel_rfl
theorem Tryz.rcellsStr : Tryz.prog.cellsOf 9 = 1 := by kernel_rfl
theorem Tryz.rstar : "*" ++ "errors.errorString" = "*errors.errorString" := by decide
theorem Tryz.rrowEs (u : TypeId) (h : Tryz.prog.typeName? 3 u = some "*errors.errorString") : u = 365 :=
  typeName_ptr_named (nm := "errors.errorString") (by rw [Tryz.rstar]; kernel_rfl) (by kernel_rfl) (by decide) u (by rw [Tryz.rstar]; exact h)
theorem snt_of_var9 {W : World} {n : String} {g : Nat} {a : Addr} (hg : Tryz.prog.globalNamed n = some g) (hv : W.var? Tryz.prog n = some #[.iface 365 (.pointer (some a))]) (hr : ∃ c t, W.heap[a.block]? = some (.cells c t (0, 0))) : Snt W g a W :=
  Snt.mk1 (by simpa using World.var?_cell hg hv 0) hr
/-- The list of the rows of layer 9. -/
def laid9 : List (String × DataW Unit) := [("math/bits.deBruijn32tab", Rows.laid_math_bits_deBruijn32tab), ("math/bits.deBruijn64tab", Rows.laid_math_bits_deBruijn64tab), ("internal/strconv.uint64pow10", Rows.laid_internal_strconv_uint64pow10), ("bspregion/api.ErrInvalid", Rows.laid_bspregion_api_ErrInvalid), ("bspregion/api.ErrRing", Rows.laid_bspregion_api_ErrRing), ("bspregion/api.ErrLimit", Rows.laid_bspregion_api_ErrLimit)]
theorem sents9 {W : World} (hL : laidMetH Tryz.prog laid9 W) : ∃ aI aR aL, Snt W 4 aI W ∧ Snt W 3 aR W ∧ Snt W 2 aL W := by
  rw [MakeChecks.laidMetH_plain _ _ _ (by kernel_rfl)] at hL
  have hT := hL.tail.tail.tail
  obtain ⟨a0, a1, s0, s1, c0, c1, t0, t1, hv0, hv1, _, _, _, _, _, _, hne, hb0, hb1⟩ := laid_sentinels2 hT Tryz.gI Tryz.gIt Tryz.gRi Tryz.gRit Tryz.underlying36 Tryz.rrowEs Tryz.underlying365 Tryz.underlying388 rfl rfl Tryz.underlying9 Tryz.rcellsEs Tryz.rcellsStr
  obtain ⟨b0, b1, s0', s1', c0', c1', t0', t1', hv0', hv1', _, _, _, _, _, _, _, _, hb1'⟩ := laid_sentinels2 hT.tail Tryz.gRi Tryz.gRit Tryz.gLi Tryz.gLit Tryz.underlying36 Tryz.rrowEs Tryz.underlying365 Tryz.underlying388 rfl rfl Tryz.underlying9 Tryz.rcellsEs Tryz.rcellsStr
  exact ⟨a0, a1, b1, snt_of_var9 Tryz.gI hv0 ⟨_, _, hb0⟩, snt_of_var9 Tryz.gRi hv1 ⟨_, _, hb1⟩, snt_of_var9 Tryz.gLi hv1' ⟨_, _, hb1'⟩⟩
end Go.Proofs.YtdlnoeegboapkaaGreatDoor
