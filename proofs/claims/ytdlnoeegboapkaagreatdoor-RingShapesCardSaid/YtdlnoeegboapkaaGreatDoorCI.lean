/-
  Texts of this claim, joined: Sl, Rg0, Frac3, NumQ.
-/
import Derived.Test.YtdlnoeegboapkaaGreatDoorCF
import Derived.Test.YtdlnoeegboapkaaGreatDoorCH
namespace Go.Proofs.YtdlnoeegboapkaaGreatDoor
open Go.RowKit
set_option maxHeartbeats 40000000
set_option maxRecDepth 100000
set_option synthInstance.maxHeartbeats 1000000
set_option synthInstance.maxSize 100000
section
theorem Bx.re {W : World} {b : Nat} {t : TypeId} {l l' : List Value} [h : Bx W b t l] (e : l = l') : Bx W b t l' := by subst e; exact h
theorem wr_in {x : Int} (h1 : -9223372036854775808 ≤ x) (h2 : x ≤ 9223372036854775807) : IntKind.i64.wrap x = x := by rw [IntKind.wrap_i64]; omega
class Rn (W : World) (v : Value) (e : outParam TypeId) (sz : outParam Nat) (n : outParam Nat) (xs : outParam (List Value)) (base : outParam Nat) (w0 : outParam World) : Prop where
  rw' : Rw W v e sz n xs base w0
  nd : ∀ g, v.ownBlock = some g → SoftB W g
section
variable {W W2 w0 w1 : World} {v : Value} {e : TypeId} {sz n n' base : Nat} {xs xs' : List Value}
theorem Rn.keep (h : Rn W v e sz n xs base w0) (hs : W.heap.size ≤ W2.heap.size) (hb : ∀ g, v.ownBlock = some g → W2.heap[g]? = W.heap[g]?) : Rn W2 v e sz n xs base w0 :=
  ⟨h.rw'.keep hs hb, fun g eg => by obtain ⟨t, l, h1, h2⟩ := (h.nd g eg).out; exact ⟨t, l, by rw [hb g eg]; exact h1, h2⟩⟩
theorem Rn.nil (hb : base ≤ W.heap.size) : Rn W (.slice none 0 0) e sz 0 [] base W := ⟨Rw.nil hb, fun g eg => by cases eg⟩
theorem Rn.here (h : Rn W v e sz n xs base w0) : Rn W v e sz n xs base W := ⟨h.rw'.here, h.nd⟩
theorem Rn.cast2 (h : Rn W v e sz n xs base w0) (e1 : n = n') (e2 : xs = xs') : Rn W v e sz n' xs' base W := by subst e1; subst e2; exact h.here
theorem Rn.slice (h : Rn W v e sz n xs base w0) : ∃ a c, v = .slice a n c := by
  rcases h.rw'.out.2 with ⟨e1, e2⟩ | ⟨g, cap, cur, e1, _⟩
  · exact ⟨none, 0, by rw [e1, e2]⟩
  · exact ⟨_, cap, e1⟩
instance Rn.al {o : Obj} [h : Rn W v e sz n xs base w0] : Rn (W.alloc o) v e sz n xs base w0 := h.keep (by rw [World.size_alloc]; omega) (fun g e => heap_al_lt (h.rw'.ltW g e))
instance Rn.dr [h : Rn W v e sz n xs base w0] : Rn W.drew v e sz n xs base w0 := h.keep (Nat.le_refl _) (fun _ _ => rfl)
instance (priority := low) Rn.kp [k : Kp1 W W2] [h : Rn W v e sz n xs base w0] : Rn W2 v e sz n xs base w0 := h.keep k.out.size (fun g e => k.out.block _ (h.rw'.ltW g e))
instance (priority := low) Rn.tp {q : Nat} [k : Tp1 W W2 q] [h : Rn W v e sz n xs base w0] [l : LtN q base] : Rn W2 v e sz n xs base w0 := h.keep k.gb.size
  (fun g e => k.gb.block _ (h.rw'.ltW g e) (fun x => by injection x with x; have := l.out; have := (h.rw'.out.lt g e).1; omega))
instance Rn.st2 {q i : Nat} {x : Value} [h : Rn W v e sz n xs base w0] [l : LtN q base] : Rn (W.setCell ⟨q, i, none⟩ x) v e sz n xs base w0 := h.keep (by rw [World.size_setCell]; omega)
  (fun g e => by simp only [World.setCell, Array.getElem?_modify]; rw [if_neg (by have := l.out; have := (h.rw'.out.lt g e).1; omega)])
class Apn (W : outParam World) (W2 : World) : Prop where out : ∃ row : Option Nat, W.grownBy W2 row ∧ ∀ k, row = some k → SoftB W k
theorem Rd.apn {l : List Nat} (h : Rd W v l) (k : Apn W W2) : Rd W2 v l := by
  obtain ⟨a, cap, rfl, h1, h2, h3, h4⟩ := h; obtain ⟨row, hg, hr⟩ := k.out
  refine ⟨a, cap, rfl, h1, h2, h3, fun h0 => ?_⟩
  obtain ⟨b, off, rfl, hcell⟩ := h4 h0
  refine ⟨b, off, rfl, fun j hj => ?_⟩
  refine hg.cell (hcell j hj) (fun eb => ?_)
  have := (hr b eb.symm).no (hcell j hj)
  simp [isDigit32] at this
theorem Pres.apn (k : Apn W W2) : Pres W W2 := ⟨fun h => ⟨h.1.apn k, h.2⟩, fun h => by obtain ⟨l, h1, h2⟩ := h; exact ⟨l, h1.apn k, h2⟩, fun {b l} y => by
  obtain ⟨row, hg, hr⟩ := k.out; rw [hg.block b (heap_lt y) (fun eb => ?_)]
  · exact y
  · obtain ⟨t, l', h1, h2, _⟩ := (hr b eb.symm).out; rw [h1] at y
    injection y with y
    injection y with _ y2
    exact h2.pair y2⟩
end
instance (priority := low) CZ.apn {W W2 : World} {v : Value} {z : Int} {k : Nat} [b : Apn W W2] [h : CZ W v z k] : CZ W2 v z k := ⟨h.out.map fun _ _ h => ⟨h.1, (Pres.apn b).nn h.2⟩⟩
instance (priority := low) CQ.apn {W W2 : World} {v : Value} {q : Rat} {k : Nat} [b : Apn W W2] [h : CQ W v q k] : CQ W2 v q k := ⟨h.out.map (Pres.apn b)⟩
instance (priority := low) CA.apn {W W2 : World} {v : Value} {q : Rat} {k : Nat} [b : Apn W W2] [h : CA W v q k] : CA W2 v q k := ⟨h.out.map (Pres.apn b)⟩
instance (priority := low) CF.apn {W W2 : World} {v : Value} {q : Rat} {k : Nat} [b : Apn W W2] [h : CF W v q k] : CF W2 v q k := ⟨h.out.map (Pres.apn b)⟩
instance (priority := low) Ct.ap {W W2 w0 : World} {base g : Nat} [k : Ap1 W W2 base w0] [h : Ct W g] [n : LtN g base] : Ct W2 g := ⟨h.out.same fun _ hj => k.block (Nat.lt_of_le_of_lt hj h.out.lt) (.inl (Nat.lt_of_le_of_lt hj n.out))⟩
instance (priority := low) Gb.ap {w W W2 w0 : World} {base g : Nat} [k : Ap1 W W2 base w0] [h : Gb w W g] [n : Gg w base] : Gb w W2 g := ⟨by
  obtain ⟨row, hg, hk⟩ := k.out
  exact gb_row h.out hg (fun i e => Nat.le_trans n.out (hk i e).1)⟩
theorem append_nd {P : Program} (w : World) (t ty e : TypeId) (i : TypeInfo) (z : Value) (ht : P.underlying t = some (.slice e)) (hi : P.info? e = some i) (hz : i.zero = some z) (he : BoxT e)
    {base : Nat} {v : Value} {n : Nat} {xs : List Value} (hown : w.ownsRow base e i.size v n xs) (hnd : ∀ g, v.ownBlock = some g → SoftB w g) (hx : ∀ u ∈ xs, isDigit32 u = false)
    (a : Addr) (m c : Nat) (news : List Value) (hl : news.length = m * i.size) (hnews : ∀ j u, news[j]? = some u → w.cell? (a.add j) = some u) (h1 : ∀ u ∈ news, u.oneCell' = true)
    (hn : ∀ u ∈ news, isDigit32 u = false) (hz0 : ∀ u ∈ z.cells.toList, isDigit32 u = false) (h63 : n + m ≤ maxLen) (hbytes : (n + m) * i.bytes ≤ 140737488355328) {v' : Value} {w' : World}
    (hr : (Builtin.append_ #[t, t] ty #[v, .slice (some a) m c]).run P w = .ok v' w') : ∀ g, v'.ownBlock = some g → SoftB w' g := by
  have hsmall : n + m ≤ 9223372036854775807 := by simp only [maxLen] at h63; omega
  have zc : ∀ k, ∀ u ∈ (Builtin.zeroCells z.cells k).toList, isDigit32 u = false := by
    intro k u hu
    unfold Builtin.zeroCells at hu
    simp only [Array.toList_map, List.mem_map, Array.toList_range, List.mem_range] at hu; obtain ⟨i, hi, rfl⟩ := hu
    have hp : 0 < z.cells.size := by
      rcases Nat.eq_zero_or_pos z.cells.size with e | e
      · rw [e] at hi; omega
      · exact e
    rw [getElem!_pos z.cells (i % z.cells.size) (Nat.mod_lt i hp)]; exact hz0 _ (by simp)
  have fresh : ∀ (l : List Value) k, (∀ u ∈ l, isDigit32 u = false) → SoftB (w.drew.alloc (.cells (l.toArray ++ Builtin.zeroCells z.cells k) e)) w.heap.size := by
    intro l k hl
    refine ⟨e, l ++ (Builtin.zeroCells z.cells k).toList, ?_, he, ?_⟩
    · have := heap_alloc_new w.drew (.cells (l.toArray ++ Builtin.zeroCells z.cells k) e)
      refine this.trans ?_
      congr 2
      apply Array.ext'
      simp
    · intro u hu
      rcases List.mem_append.1 hu with h | h
      · exact hl u h
      · exact zc k u h
  rcases hown.2 with ⟨rfl, rfl⟩ | ⟨g, cap, cur, rfl, hbg, hg, hnc, hcm, hcs, htake⟩
  · have hx0 : xs = [] := List.eq_nil_of_length_eq_zero (by simpa using hown.1)
    subst hx0
    by_cases hm : m = 0
    · subst hm
      have hn : news = [] := List.eq_nil_of_length_eq_zero (by simpa using hl)
      subst hn
      have h2 : (Builtin.append_ #[t, t] ty #[.slice none 0 0, .slice (some a) 0 c]).run P w = .ok (.slice none 0 0) w := by
        simp [Builtin.append_, run_underlying ht, sizeOf, typeInfo, hi, Builtin.lenOf, Builtin.firstCells, loadCells, loadCellsFrom]
      rw [h2] at hr
      injection hr with e1 e2
      subst e1; subst e2
      intro g eg; cases eg
    · have h2 := run_append_nil (P := P) w t ty e i z ht hi hz a m c news hl hnews (by omega) (by omega) (by have hb := hbytes; simp only [Nat.zero_add] at hb; omega)
      rw [h2] at hr
      injection hr with e1 e2
      subst e1; subst e2
      intro g eg; simp only [Value.ownBlock, Option.some.injEq] at eg; subst eg; exact fresh _ _ hn
  · by_cases hroom : n + m ≤ cap
    · have hfit : n * i.size + news.length ≤ cur.size := by rw [hl, hcs, ← Nat.add_mul]; exact Nat.mul_le_mul_right _ hroom
      have h2 := run_append_room (P := P) w t ty e i ht hi g n cap cur hg a m c news hl hnews h1 hroom hfit
      rw [h2] at hr
      injection hr with e1 e2
      subst e1; subst e2
      intro g' eg; simp only [Value.ownBlock, Option.some.injEq] at eg; subst eg
      refine ⟨e, _, setRow_heap w g cur _ e _ hg, he, ?_⟩
      obtain ⟨t', l', k1, _, k3⟩ := (hnd g rfl).out; rw [hg] at k1
      injection k1 with k1
      injection k1 with k1 _ _
      subst k1; intro u hu; simp only [List.mem_append] at hu
      rcases hu with (hu | hu) | hu
      · exact k3 u (List.mem_of_mem_take (by simpa using hu))
      · exact hn u hu
      · exact k3 u (List.mem_of_mem_drop (by simpa using hu))
    · have holds : ∀ j u, xs[j]? = some u → w.cell? ((⟨g, 0, none⟩ : Addr).add j) = some u := hown.cells (g := g) rfl
      have h2 := run_append_grow (P := P) w t ty e i z ht hi hz ⟨g, 0, none⟩ n cap xs hown.1 holds a m c news hl hnews (by omega) (by omega) (growslice_fits (by omega) hbytes)
      rw [h2] at hr
      injection hr with e1 e2
      subst e1; subst e2
      intro g' eg; simp only [Value.ownBlock, Option.some.injEq] at eg; subst eg
      have := fresh (xs ++ news) (grownCap w (n + m) cap e - (n + m)) (fun u hu => (List.mem_append.1 hu).elim (hx u) (hn u))
      rw [← List.append_toArray] at this; exact this
theorem app_rn {W w0 : World} {ops : Array Oper} {rest : List Oper} {o : Oper} {a : Act} {Q : Exit → Act → World → Prop} (hg : o.guard = none) (s x : Operand) (t : TypeId)
    (hop : o.op = .call { callee := .builtin .append, args := #[s, x], argTypes := #[t, t] }) {e : TypeId} (ht : Tryz.prog.underlying t = some (.slice e)) {z : Value} {sz bt : Nat}
    (hi : (Tryz.prog.info? e).map (fun i => (i.zero, i.size, i.bytes)) = some (some z, sz, bt)) (hzs : z.cells.size = sz) (hsz : 0 < sz) (hbt : bt ≤ 1000) (hz0 : ∀ u ∈ z.cells.toList, isDigit32 u = false) (he : BoxT e) {v : Value} {n : Nat} {xs : List Value} {base : Nat} (hs : a.eval s = v) [hr : Rn W v e sz n xs base w0]
    (hnx : ∀ u ∈ xs, isDigit32 u = false) {ad : Addr} {m c : Nat} {l : List Value} (hx : a.eval x = .slice (some ad) m c) (hb : ∀ j u, l[j]? = some u → W.cell? (ad.add j) = some u) (hl : l.length = m * sz) (h1 : ∀ u ∈ l, u.oneCell' = true) (hnl : ∀ u ∈ l, isDigit32 u = false) (hm : 0 < m) (hn : n + m ≤ 1000000)
    (hK : ∀ g c W' [Ap1 W W' base w0] [Apn W W'] [Rn W' (.slice (some ⟨g, 0, none⟩) (n + m) c) e sz (n + m) (xs ++ l) base W'], wpList Tryz.prog ops Q rest (a.put o.dst (.slice (some ⟨g, 0, none⟩) (n + m) c)) W') :
    wpList Tryz.prog ops Q (o :: rest) a W := by
  obtain ⟨i0, hi0⟩ : ∃ i0, Tryz.prog.info? e = some i0 := by
    cases h : Tryz.prog.info? e with
    | none => rw [h] at hi; cases hi
    | some i0 => exact ⟨i0, rfl⟩
  rw [hi0] at hi; simp only [Option.map_some, Option.some.injEq, Prod.mk.injEq] at hi; obtain ⟨hz, hsz', hbt'⟩ := hi
  have hby : (n + m) * bt ≤ 140737488355328 := by
    have : (n + m) * bt ≤ 1000000 * 1000 := Nat.mul_le_mul hn hbt
    omega
  have hmx : n + m ≤ maxLen := by unfold maxLen; omega
  refine wpList_plain hg fun K hKK => ?_
  obtain ⟨v', w', hrun, h2, h3, h4⟩ := run_append_own (P := Tryz.prog) W base t o.type e i0 z sz bt ht hi0 hz hsz' hbt' hzs hsz v n xs hr.rw'.out ad m c l hl hb h1 hmx hby hr.rw'.hb
  have hsoft := append_nd (P := Tryz.prog) W t o.type e i0 z ht hi0 hz he (base := base) (by rw [hsz']; exact hr.rw'.out) hr.nd hnx ad m c l (by rw [hsz']; exact hl) hb h1 hnl hz0 hmx (by rw [hbt']; exact hby) hrun
  unfold Oper.wp execOp
  simp only [hop, resolve, invoke, builtin, Sem.run_bind, Sem.run_pure, Result.andThen_ok, List.map_toArray, List.map_cons, List.map_nil, hs, hx, hrun]
  have hne : v' ≠ .slice none 0 0 := fun e => by have := (h4.1 e).2; omega
  rcases h2.2 with ⟨e', _⟩ | ⟨g, cap, cur, e', _⟩
  · exact absurd e' hne
  · subst e'
    have i1 : Ap1 W w' base w0 := ⟨⟨_, h3, fun k hk => ⟨(hr.rw'.out.lt k hk).1, hr.rw'.lt k hk⟩⟩⟩
    have i2 : Apn W w' := ⟨⟨_, h3, hr.nd⟩⟩
    have i3 : Rn w' (.slice (some ⟨g, 0, none⟩) (n + m) cap) e sz (n + m) (xs ++ l) base w' := ⟨Rw.mk1 h2 (Nat.le_trans hr.rw'.hb h3.size), hsoft⟩
    exact hKK _ _ (@hK g cap w' i1 i2 i3)
theorem app_rn1 {W w0 : World} {ops : Array Oper} {rest : List Oper} {o : Oper} {a : Act} {Q : Exit → Act → World → Prop} (hg : o.guard = none) (s x : Operand) (t : TypeId)
    (hop : o.op = .call { callee := .builtin .append, args := #[s, x], argTypes := #[t, t] }) {e : TypeId} (ht : Tryz.prog.underlying t = some (.slice e)) {z : Value} {sz bt : Nat}
    (hi : (Tryz.prog.info? e).map (fun i => (i.zero, i.size, i.bytes)) = some (some z, sz, bt)) (hzs : z.cells.size = sz) (hsz : 0 < sz) (hbt : bt ≤ 1000) (hz0 : ∀ u ∈ z.cells.toList, isDigit32 u = false) (he : BoxT e) {v : Value} {n : Nat} {xs : List Value} {base : Nat} (hs : a.eval s = v) [hr : Rn W v e sz n xs base w0]
    (hnx : ∀ u ∈ xs, isDigit32 u = false) {q : Nat} {ety : TypeId} {l : List Value} (hx : a.eval x = .slice (some ⟨q, 0, none⟩) 1 1) [hb : Bx W q ety l] (hl : l.length = sz) (h1 : ∀ u ∈ l, u.oneCell' = true) (hnl : ∀ u ∈ l, isDigit32 u = false) (hn : n + 1 ≤ 1000000)
    (hK : ∀ g c W' [Ap1 W W' base w0] [Apn W W'] [Rn W' (.slice (some ⟨g, 0, none⟩) (n + 1) c) e sz (n + 1) (xs ++ l) base W'], wpList Tryz.prog ops Q rest (a.put o.dst (.slice (some ⟨g, 0, none⟩) (n + 1) c)) W') :
    wpList Tryz.prog ops Q (o :: rest) a W :=
  app_rn hg s x t hop ht hi hzs hsz hbt hz0 he hs hnx hx (fun j u hu => by
    have hadd : (⟨q, 0, none⟩ : Addr).add j = ⟨q, j, none⟩ := by unfold Addr.add; split <;> simp_all
    rw [hadd, cell_bx]; exact hu) (by omega) h1 hnl (by omega) hn hK
class Sl (W : World) (v : Value) (n : outParam Nat) (xs : outParam (List Value)) (w0 : outParam World) : Prop where
  out : (v = .slice none 0 0 ∧ n = 0) ∨ ∃ g c, v = .slice (some ⟨g, 0, none⟩) n c ∧ n ≤ c ∧ ∀ j u, xs[j]? = some u → W.cell? ⟨g, j, none⟩ = some u
  lt : ∀ g, v.ownBlock = some g → g < w0.heap.size
  ltW : ∀ g, v.ownBlock = some g → g < W.heap.size
class At (W : World) (g : Nat) (xs : outParam (List Value)) (w0 : outParam World) : Prop where
  out : ∀ j u, xs[j]? = some u → W.cell? ⟨g, j, none⟩ = some u
  lt : g < w0.heap.size
  ltW : g < W.heap.size
section
variable {W W2 w0 w1 : World} {v : Value} {n base g : Nat} {xs : List Value}
theorem cell_same {j : Nat} (h : W2.heap[g]? = W.heap[g]?) : W2.cell? ⟨g, j, none⟩ = W.cell? ⟨g, j, none⟩ := by unfold World.cell?; simp only [h]
theorem Sl.keep (h : Sl W v n xs w0) (hs : W.heap.size ≤ W2.heap.size) (hb : ∀ g, v.ownBlock = some g → W2.heap[g]? = W.heap[g]?) : Sl W2 v n xs w0 := by
  refine ⟨?_, h.lt, fun g e => Nat.lt_of_lt_of_le (h.ltW g e) hs⟩
  rcases h.out with k | ⟨g, c, rfl, hc, k⟩
  · exact .inl k
  · exact .inr ⟨g, c, rfl, hc, fun j u hu => by rw [cell_same (hb g rfl)]; exact k j u hu⟩
theorem At.keep (h : At W g xs w0) (hs : W.heap.size ≤ W2.heap.size) (hb : W2.heap[g]? = W.heap[g]?) : At W2 g xs w0 :=
  ⟨fun j u hu => by rw [cell_same hb]; exact h.out j u hu, h.lt, Nat.lt_of_lt_of_le h.ltW hs⟩
instance Sl.al {o : Obj} [h : Sl W v n xs w0] : Sl (W.alloc o) v n xs w0 := h.keep (by rw [World.size_alloc]; omega) (fun g e => heap_al_lt (h.ltW g e))
instance Sl.dr [h : Sl W v n xs w0] : Sl W.drew v n xs w0 := h.keep (Nat.le_refl _) (fun _ _ => rfl)
instance (priority := low) Sl.kp [k : Kp1 W W2] [h : Sl W v n xs w0] : Sl W2 v n xs w0 := h.keep k.out.size (fun g e => k.out.block _ (h.ltW g e))
instance At.al {o : Obj} [h : At W g xs w0] : At (W.alloc o) g xs w0 := h.keep (by rw [World.size_alloc]; omega) (heap_al_lt h.ltW)
instance At.dr [h : At W g xs w0] : At W.drew g xs w0 := h.keep (Nat.le_refl _) rfl
instance (priority := low) At.kp [k : Kp1 W W2] [h : At W g xs w0] : At W2 g xs w0 := h.keep k.out.size (k.out.block _ h.ltW)
instance At.st {q i : Nat} {x : Value} [h : At W g xs w0] [l : Ge w0 q] : At (W.setCell ⟨q, i, none⟩ x) g xs w0 := h.keep (by rw [World.size_setCell]; omega)
  (by simp only [World.setCell, Array.getElem?_modify]; rw [if_neg (by have := l.out; have := h.lt; omega)])
instance (priority := low) At.ex {L : List Nat} [k : Ex1 W L W2] [h : At W g xs w0] [l : GeL w0 L] : At W2 g xs w0 := h.keep k.out.size
  (k.out.block _ h.ltW (fun hm => by have := l.out _ hm; have := h.lt; omega))
instance (priority := low) At.ap [k : Ap1 W W2 base w1] [h : At W g xs w0] [l : Ge w0 base] : At W2 g xs w0 := h.keep k.size (k.block h.ltW (.inl (Nat.lt_of_lt_of_le h.lt l.out)))
theorem Sl.here (h : Sl W v n xs w0) : Sl W v n xs W := ⟨h.out, h.ltW, h.ltW⟩
theorem Sl.len {a : Option Addr} {n' c : Nat} (h : Sl W (.slice a n' c) n xs w0) : n' = n := by
  rcases h.out with ⟨e, e0⟩ | ⟨g, c', e, _, _⟩
  · injection e with _ e2 _; omega
  · injection e with _ e2 _
theorem Sl.form {a : Option Addr} {n' c : Nat} (h : Sl W (.slice a n' c) n xs w0) (h0 : 0 < n) : ∃ g, a = some ⟨g, 0, none⟩ ∧ At W g xs w0 := by
  rcases h.out with ⟨e, e0⟩ | ⟨g, c', e, _, hc⟩
  · omega
  · injection e with e1 e2 e3
    subst e1; exact ⟨g, rfl, hc, h.lt g rfl, h.ltW g rfl⟩
theorem Sl.capc {a : Option Addr} {n' c : Nat} (h : Sl W (.slice a n' c) n xs w0) : n ≤ c := by
  rcases h.out with ⟨e, e0⟩ | ⟨g, c', e, hc, _⟩
  · omega
  · injection e with _ _ e3; omega
theorem Rw.sl {e : TypeId} {sz : Nat} (h : Rw W v e sz n xs base w0) : Sl W v n xs w0 := by
  refine ⟨?_, h.lt, h.ltW⟩
  rcases h.out.2 with hn | ⟨g, cap, cur, rfl, hb, hgg, rest⟩
  · exact .inl hn
  · refine .inr ⟨g, cap, rfl, rest.1, fun j u hu => ?_⟩
    have := h.out.cells (g := g) rfl j u hu
    have hadd : (⟨g, 0, none⟩ : Addr).add j = ⟨g, j, none⟩ := by unfold Addr.add; split <;> simp_all
    rwa [hadd] at this
instance (priority := low) Sl.ofRn {e : TypeId} {sz : Nat} [h : Rn W v e sz n xs base w0] : Sl W v n xs w0 := h.rw'.sl
theorem Rn.at {e : TypeId} {sz c n' : Nat} (h : Rn W (.slice (some ⟨g, 0, none⟩) n' c) e sz n xs base w0) : At W g xs w0 := by
  refine ⟨fun j u hu => ?_, h.rw'.lt g rfl, h.rw'.ltW g rfl⟩
  have := h.rw'.out.cells (g := g) rfl j u hu
  have hadd : (⟨g, 0, none⟩ : Addr).add j = ⟨g, j, none⟩ := by unfold Addr.add; split <;> simp_all
  rwa [hadd] at this
end
theorem flat_len {α : Type} {f : α → List Value} {sz : Nat} (hf : ∀ a, (f a).length = sz) (V : List α) : (V.flatMap f).length = V.length * sz := by
  induction V with
  | nil => simp
  | cons a V ih => rw [List.flatMap_cons, List.length_append, hf, ih, List.length_cons, Nat.add_mul]; omega
theorem flat_get {α : Type} {f : α → List Value} {sz : Nat} (hf : ∀ a, (f a).length = sz) (V : List α) : ∀ (i j : Nat) (h : i < V.length), j < sz → (V.flatMap f)[i * sz + j]? = (f V[i])[j]? := by
  induction V with
  | nil => intro i j h; simp at h
  | cons x V ih =>
    intro i j h hj
    cases i with
    | zero =>
      rw [List.flatMap_cons, List.getElem?_append_left (by rw [hf]; omega)]; simp
    | succ i =>
      rw [List.flatMap_cons, List.getElem?_append_right (by rw [hf, Nat.add_mul]; omega)]
      rw [show (i + 1) * sz + j - (f x).length = i * sz + j by rw [hf, Nat.add_mul]; omega]
      exact ih i j (by simpa using h) hj
theorem flat_nd {α : Type} {f : α → List Value} (hf : ∀ a, ∀ u ∈ f a, isDigit32 u = false) (V : List α) : ∀ u ∈ V.flatMap f, isDigit32 u = false := by
  intro u hu; obtain ⟨a, _, h⟩ := List.mem_flatMap.1 hu; exact hf a u h
theorem flat_snoc {α : Type} (f : α → List Value) (V : List α) (a : α) : (V ++ [a]).flatMap f = V.flatMap f ++ f a := by simp
theorem load_off {P : Program} (W : World) (b off : Nat) (ty : TypeId) (vs : List Value) (d : TypeDesc) (hu : P.underlying ty = some d) (hd : (match d with | .struct _ | .array _ _ => true | _ => false) = true)
    (hi : (P.info? ty).map (·.size) = some vs.length) (hc : ∀ j (hj : j < vs.length), W.cell? ⟨b, off + j, none⟩ = some vs[j]) : (loadVar ty ⟨b, off, none⟩).run P W = .ok (.agg vs.toArray) W := by
  have hl : (loadCells ⟨b, off, none⟩ vs.length).run P W = .ok vs.toArray W :=
    run_loadCells_list (P := P) W ⟨b, off, none⟩ vs (fun j v hv => by
      have hadd : (⟨b, off, none⟩ : Addr).add j = ⟨b, off + j, none⟩ := by unfold Addr.add; split <;> simp_all
      rw [hadd]
      have hj : j < vs.length := by
        rcases Nat.lt_or_ge j vs.length with h | h
        · exact h
        · rw [List.getElem?_eq_none h] at hv; cases hv
      rw [hc j hj, ← hv, List.getElem?_eq_getElem hj])
  cases hq : P.info? ty with
  | none => simp [hq] at hi
  | some i =>
    have hs : i.size = vs.length := by simpa [hq] using hi
    have hagg : (isAgg ty).run P W = .ok true W := by
      unfold isAgg; rw [Sem.run_bind, run_underlying hu W]
      cases d <;> simp_all
    simp [loadVar, hagg, sizeOf, typeInfo, hq, hs, hl]
structure FV where
  nx : Int
  dx : Int
  px : Option Addr
  ny : Int
  dy : Int
  py : Option Addr
structure AV where
  gx : Bool
  ax : Option Addr
  lx : Nat
  cx : Nat
  aax : Option Addr
  llx : Nat
  ccx : Nat
  gy : Bool
  ay : Option Addr
  ly : Nat
  cy : Nat
  aay : Option Addr
  lly : Nat
  ccy : Nat
def FV.l (v : FV) : List Value := [.int .i64 v.nx, .int .i64 v.dx, .pointer v.px, .int .i64 v.ny, .int .i64 v.dy, .pointer v.py]
def AV.l (v : AV) : List Value := [.bool v.gx, .slice v.ax v.lx v.cx, .slice v.aax v.llx v.ccx, .bool v.gy, .slice v.ay v.ly v.cy, .slice v.aay v.lly v.ccy]
theorem FV.len (v : FV) : v.l.length = 6 := rfl
theorem AV.len (v : AV) : v.l.length = 6 := rfl
theorem FV.one (v : FV) : ∀ u ∈ v.l, u.oneCell' = true := by
  intro u hu; simp only [FV.l, List.mem_cons, List.not_mem_nil, or_false] at hu; rcases hu with rfl | rfl | rfl | rfl | rfl | rfl <;> rfl
theorem AV.one (v : AV) : ∀ u ∈ v.l, u.oneCell' = true := by
  intro u hu; simp only [AV.l, List.mem_cons, List.not_mem_nil, or_false] at hu; rcases hu with rfl | rfl | rfl | rfl | rfl | rfl <;> rfl
theorem FV.nd (v : FV) : ∀ u ∈ v.l, isDigit32 u = false := by
  intro u hu; simp only [FV.l, List.mem_cons, List.not_mem_nil, or_false] at hu; rcases hu with rfl | rfl | rfl | rfl | rfl | rfl <;> rfl
theorem AV.nd (v : AV) : ∀ u ∈ v.l, isDigit32 u = false := by
  intro u hu; simp only [AV.l, List.mem_cons, List.not_mem_nil, or_false] at hu; rcases hu with rfl | rfl | rfl | rfl | rfl | rfl <;> rfl
def rowF (V : List FV) : List Value := V.flatMap FV.l
def rowA (V : List AV) : List Value := V.flatMap AV.l
theorem rowF_snoc (V : List FV) (a : FV) : rowF (V ++ [a]) = rowF V ++ a.l := flat_snoc _ _ _
theorem rowA_snoc (V : List AV) (a : AV) : rowA (V ++ [a]) = rowA V ++ a.l := flat_snoc _ _ _
theorem rowF_nd (V : List FV) : ∀ u ∈ rowF V, isDigit32 u = false := flat_nd FV.nd V
theorem rowA_nd (V : List AV) : ∀ u ∈ rowA V, isDigit32 u = false := flat_nd AV.nd V
def fv (V : List FV) (i : Nat) : FV := V.getD i ⟨0, 0, none, 0, 0, none⟩
def av (V : List AV) (i : Nat) : AV := V.getD i ⟨false, none, 0, 0, none, 0, 0, false, none, 0, 0, none, 0, 0⟩
def pg (L : List (Rat × Rat)) (i : Nat) : Rat × Rat := L.getD i (0, 0)
theorem getD_lt {α : Type} {V : List α} {i : Nat} {d : α} (h : i < V.length) : V.getD i d = V[i] := by rw [List.getD_eq_getElem?_getD, List.getElem?_eq_getElem h]; rfl
theorem fv_get {V : List FV} {i : Nat} (h : i < V.length) : fv V i = V[i] := getD_lt h
theorem av_get {V : List AV} {i : Nat} (h : i < V.length) : av V i = V[i] := getD_lt h
theorem pg_get {L : List (Rat × Rat)} {i : Nat} (h : i < L.length) : pg L i = L[i] := getD_lt h
theorem at_f {W w0 : World} {g k j : Nat} {V : List FV} (h : At W g (rowF V) w0) (hk : k < V.length) (hj : j < 6) : W.cell? ⟨g, k * 6 + j, none⟩ = some ((fv V k).l[j]'hj) := by
  rw [fv_get hk]
  exact h.out _ _ (by rw [rowF, flat_get FV.len V k j hk hj]; exact List.getElem?_eq_getElem (l := V[k].l) hj)
theorem at_a {W w0 : World} {g k j : Nat} {V : List AV} (h : At W g (rowA V) w0) (hk : k < V.length) (hj : j < 6) : W.cell? ⟨g, k * 6 + j, none⟩ = some ((av V k).l[j]'hj) := by
  rw [av_get hk]
  exact h.out _ _ (by rw [rowA, flat_get AV.len V k j hk hj]; exact List.getElem?_eq_getElem (l := V[k].l) hj)
@[go_sem] theorem cell_f0 {W w0 : World} {g k : Nat} {V : List FV} [h : At W g (rowF V) w0] (hk : k < V.length) : W.cell? ⟨g, k * 6, none⟩ = some (.int .i64 (fv V k).nx) := at_f h hk (j := 0) (by decide)
@[go_sem] theorem cell_f1 {W w0 : World} {g k : Nat} {V : List FV} [h : At W g (rowF V) w0] (hk : k < V.length) : W.cell? ⟨g, k * 6 + 1, none⟩ = some (.int .i64 (fv V k).dx) := at_f h hk (j := 1) (by decide)
@[go_sem] theorem cell_f2 {W w0 : World} {g k : Nat} {V : List FV} [h : At W g (rowF V) w0] (hk : k < V.length) : W.cell? ⟨g, k * 6 + 2, none⟩ = some (.pointer (fv V k).px) := at_f h hk (j := 2) (by decide)
@[go_sem] theorem cell_f3 {W w0 : World} {g k : Nat} {V : List FV} [h : At W g (rowF V) w0] (hk : k < V.length) : W.cell? ⟨g, k * 6 + 3, none⟩ = some (.int .i64 (fv V k).ny) := at_f h hk (j := 3) (by decide)
@[go_sem] theorem cell_f4 {W w0 : World} {g k : Nat} {V : List FV} [h : At W g (rowF V) w0] (hk : k < V.length) : W.cell? ⟨g, k * 6 + 4, none⟩ = some (.int .i64 (fv V k).dy) := at_f h hk (j := 4) (by decide)
@[go_sem] theorem cell_f5 {W w0 : World} {g k : Nat} {V : List FV} [h : At W g (rowF V) w0] (hk : k < V.length) : W.cell? ⟨g, k * 6 + 5, none⟩ = some (.pointer (fv V k).py) := at_f h hk (j := 5) (by decide)
@[go_sem] theorem cell_a0 {W w0 : World} {g k : Nat} {V : List AV} [h : At W g (rowA V) w0] (hk : k < V.length) : W.cell? ⟨g, k * 6, none⟩ = some (.bool (av V k).gx) := at_a h hk (j := 0) (by decide)
@[go_sem] theorem cell_a1 {W w0 : World} {g k : Nat} {V : List AV} [h : At W g (rowA V) w0] (hk : k < V.length) : W.cell? ⟨g, k * 6 + 1, none⟩ = some (.slice (av V k).ax (av V k).lx (av V k).cx) := at_a h hk (j := 1) (by decide)
@[go_sem] theorem cell_a2 {W w0 : World} {g k : Nat} {V : List AV} [h : At W g (rowA V) w0] (hk : k < V.length) : W.cell? ⟨g, k * 6 + 2, none⟩ = some (.slice (av V k).aax (av V k).llx (av V k).ccx) := at_a h hk (j := 2) (by decide)
@[go_sem] theorem cell_a3 {W w0 : World} {g k : Nat} {V : List AV} [h : At W g (rowA V) w0] (hk : k < V.length) : W.cell? ⟨g, k * 6 + 3, none⟩ = some (.bool (av V k).gy) := at_a h hk (j := 3) (by decide)
@[go_sem] theorem cell_a4 {W w0 : World} {g k : Nat} {V : List AV} [h : At W g (rowA V) w0] (hk : k < V.length) : W.cell? ⟨g, k * 6 + 4, none⟩ = some (.slice (av V k).ay (av V k).ly (av V k).cy) := at_a h hk (j := 4) (by decide)
@[go_sem] theorem cell_a5 {W w0 : World} {g k : Nat} {V : List AV} [h : At W g (rowA V) w0] (hk : k < V.length) : W.cell? ⟨g, k * 6 + 5, none⟩ = some (.slice (av V k).aay (av V k).lly (av V k).ccy) := at_a h hk (j := 5) (by decide)
class PsF (W : World) (V : List FV) (L : outParam (List (Rat × Rat))) (k : outParam Nat) : Prop where
  len : V.length = L.length
  x : ∀ i, i < V.length → CF W (.agg #[.int .i64 (fv V i).nx, .int .i64 (fv V i).dx, .pointer (fv V i).px]) (pg L i).1 k
  y : ∀ i, i < V.length → CF W (.agg #[.int .i64 (fv V i).ny, .int .i64 (fv V i).dy, .pointer (fv V i).py]) (pg L i).2 k
instance PsF.al {W : World} {V : List FV} {L : List (Rat × Rat)} {k : Nat} {o : Obj} [h : PsF W V L k] : PsF (W.alloc o) V L k := ⟨h.len, fun i hi => by have := h.x i hi; infer_instance, fun i hi => by have := h.y i hi; infer_instance⟩
instance (priority := low) PsF.kp {W W2 : World} {V : List FV} {L : List (Rat × Rat)} {k : Nat} [b : Kp1 W W2] [h : PsF W V L k] : PsF W2 V L k := ⟨h.len, fun i hi => by have := h.x i hi; infer_instance, fun i hi => by have := h.y i hi; infer_instance⟩
instance (priority := low) PsF.apn {W W2 : World} {V : List FV} {L : List (Rat × Rat)} {k : Nat} [b : Apn W W2] [h : PsF W V L k] : PsF W2 V L k := ⟨h.len, fun i hi => by have := h.x i hi; infer_instance, fun i hi => by have := h.y i hi; infer_instance⟩
instance PsF.st {W : World} {V : List FV} {L : List (Rat × Rat)} {k : Nat} {qb ib : Nat} {xv : Value} [b : SoftB W qb] [h : PsF W V L k] : PsF (W.setCell ⟨qb, ib, none⟩ xv) V L k := ⟨h.len, fun i hi => by have := h.x i hi; infer_instance, fun i hi => by have := h.y i hi; infer_instance⟩
instance PsF.ix {W : World} {V : List FV} {L : List (Rat × Rat)} {k : Nat} {i : Nat} [h : PsF W V L k] [l : LtN i V.length] : CF W (.agg #[.int .i64 (fv V i).nx, .int .i64 (fv V i).dx, .pointer (fv V i).px]) (pg L i).1 k := h.x i l.out
instance PsF.iy {W : World} {V : List FV} {L : List (Rat × Rat)} {k : Nat} {i : Nat} [h : PsF W V L k] [l : LtN i V.length] : CF W (.agg #[.int .i64 (fv V i).ny, .int .i64 (fv V i).dy, .pointer (fv V i).py]) (pg L i).2 k := h.y i l.out
theorem PsF.nil {W : World} {k : Nat} : PsF W [] [] k := ⟨rfl, fun i hi => by simp at hi, fun i hi => by simp at hi⟩
theorem PsF.mono {W : World} {V : List FV} {L : List (Rat × Rat)} {k : Nat} {k' : Nat} (h : PsF W V L k) (b : k ≤ k') : PsF W V L k' := ⟨h.len, fun i hi => (h.x i hi).cast rfl b, fun i hi => (h.y i hi).cast rfl b⟩
theorem PsF.snoc {W : World} {V : List FV} {L : List (Rat × Rat)} {k : Nat} {a : FV} {x y : Rat} {kx ky : Nat} (h : PsF W V L k) (hx : CF W (.agg #[.int .i64 (a).nx, .int .i64 (a).dx, .pointer (a).px]) x kx) (hy : CF W (.agg #[.int .i64 (a).ny, .int .i64 (a).dy, .pointer (a).py]) y ky) (bx : kx ≤ k) (b_y : ky ≤ k) : PsF W (V ++ [a]) (L ++ [(x, y)]) k := by
  refine ⟨by simp [h.len], fun i hi => ?_, fun i hi => ?_⟩
  all_goals
    rcases Nat.lt_or_ge i V.length with hlt | hge
    · have e1 : fv (V ++ [a]) i = fv V i := by rw [fv_get hi, fv_get hlt, List.getElem_append_left hlt]
      have e2 : pg (L ++ [(x, y)]) i = pg L i := by rw [pg_get (by rw [List.length_append, ← h.len]; omega), pg_get (by rw [← h.len]; exact hlt), List.getElem_append_left (by rw [← h.len]; exact hlt)]
      rw [e1, e2]
      first
        | exact h.x i hlt
        | exact h.y i hlt
    · have hi' : i = V.length := by simp at hi; omega
      subst hi'
      have e1 : fv (V ++ [a]) V.length = a := by rw [fv_get hi]; simp
      have e2 : pg (L ++ [(x, y)]) V.length = (x, y) := by rw [h.len, pg_get (by simp)]; simp
      rw [e1, e2]
      first
        | exact hx.cast rfl bx
        | exact hy.cast rfl b_y
theorem PsF.add {W : World} {V : List FV} {L : List (Rat × Rat)} {k : Nat} {nx dx ny dy : Int} {px py : Option Addr} {x y : Rat} {kx ky : Nat} [h : PsF W V L k] [hx : CF W (.agg #[.int .i64 nx, .int .i64 dx, .pointer px]) x kx] [hy : CF W (.agg #[.int .i64 ny, .int .i64 dy, .pointer py]) y ky] (bx : kx ≤ k) (b_y : ky ≤ k) : PsF W (V ++ [⟨nx, dx, px, ny, dy, py⟩]) (L ++ [(x, y)]) k := h.snoc hx hy bx b_y
class PsA (W : World) (V : List AV) (L : outParam (List (Rat × Rat))) (k : outParam Nat) : Prop where
  len : V.length = L.length
  x : ∀ i, i < V.length → CA W (.agg #[.bool (av V i).gx, .slice (av V i).ax (av V i).lx (av V i).cx, .slice (av V i).aax (av V i).llx (av V i).ccx]) (pg L i).1 k
  y : ∀ i, i < V.length → CA W (.agg #[.bool (av V i).gy, .slice (av V i).ay (av V i).ly (av V i).cy, .slice (av V i).aay (av V i).lly (av V i).ccy]) (pg L i).2 k
instance PsA.al {W : World} {V : List AV} {L : List (Rat × Rat)} {k : Nat} {o : Obj} [h : PsA W V L k] : PsA (W.alloc o) V L k := ⟨h.len, fun i hi => by have := h.x i hi; infer_instance, fun i hi => by have := h.y i hi; infer_instance⟩
instance (priority := low) PsA.kp {W W2 : World} {V : List AV} {L : List (Rat × Rat)} {k : Nat} [b : Kp1 W W2] [h : PsA W V L k] : PsA W2 V L k := ⟨h.len, fun i hi => by have := h.x i hi; infer_instance, fun i hi => by have := h.y i hi; infer_instance⟩
instance (priority := low) PsA.apn {W W2 : World} {V : List AV} {L : List (Rat × Rat)} {k : Nat} [b : Apn W W2] [h : PsA W V L k] : PsA W2 V L k := ⟨h.len, fun i hi => by have := h.x i hi; infer_instance, fun i hi => by have := h.y i hi; infer_instance⟩
instance PsA.ix {W : World} {V : List AV} {L : List (Rat × Rat)} {k : Nat} {i : Nat} [h : PsA W V L k] [l : LtN i V.length] : CA W (.agg #[.bool (av V i).gx, .slice (av V i).ax (av V i).lx (av V i).cx, .slice (av V i).aax (av V i).llx (av V i).ccx]) (pg L i).1 k := h.x i l.out
instance PsA.iy {W : World} {V : List AV} {L : List (Rat × Rat)} {k : Nat} {i : Nat} [h : PsA W V L k] [l : LtN i V.length] : CA W (.agg #[.bool (av V i).gy, .slice (av V i).ay (av V i).ly (av V i).cy, .slice (av V i).aay (av V i).lly (av V i).ccy]) (pg L i).2 k := h.y i l.out
theorem PsA.nil {W : World} {k : Nat} : PsA W [] [] k := ⟨rfl, fun i hi => by simp at hi, fun i hi => by simp at hi⟩
theorem PsA.mono {W : World} {V : List AV} {L : List (Rat × Rat)} {k : Nat} {k' : Nat} (h : PsA W V L k) (b : k ≤ k') : PsA W V L k' := ⟨h.len, fun i hi => (h.x i hi).cast rfl b, fun i hi => (h.y i hi).cast rfl b⟩
theorem PsA.snoc {W : World} {V : List AV} {L : List (Rat × Rat)} {k : Nat} {a : AV} {x y : Rat} {kx ky : Nat} (h : PsA W V L k) (hx : CA W (.agg #[.bool (a).gx, .slice (a).ax (a).lx (a).cx, .slice (a).aax (a).llx (a).ccx]) x kx) (hy : CA W (.agg #[.bool (a).gy, .slice (a).ay (a).ly (a).cy, .slice (a).aay (a).lly (a).ccy]) y ky) (bx : kx ≤ k) (b_y : ky ≤ k) : PsA W (V ++ [a]) (L ++ [(x, y)]) k := by
  refine ⟨by simp [h.len], fun i hi => ?_, fun i hi => ?_⟩
  all_goals
    rcases Nat.lt_or_ge i V.length with hlt | hge
    · have e1 : av (V ++ [a]) i = av V i := by rw [av_get hi, av_get hlt, List.getElem_append_left hlt]
      have e2 : pg (L ++ [(x, y)]) i = pg L i := by rw [pg_get (by rw [List.length_append, ← h.len]; omega), pg_get (by rw [← h.len]; exact hlt), List.getElem_append_left (by rw [← h.len]; exact hlt)]
      rw [e1, e2]
      first
        | exact h.x i hlt
        | exact h.y i hlt
    · have hi' : i = V.length := by simp at hi; omega
      subst hi'
      have e1 : av (V ++ [a]) V.length = a := by rw [av_get hi]; simp
      have e2 : pg (L ++ [(x, y)]) V.length = (x, y) := by rw [h.len, pg_get (by simp)]; simp
      rw [e1, e2]
      first
        | exact hx.cast rfl bx
        | exact hy.cast rfl b_y
theorem PsA.add {W : World} {V : List AV} {L : List (Rat × Rat)} {k : Nat} {gx gy : Bool} {ax aax ay aay : Option Addr} {lx cx llx ccx ly cy lly ccy : Nat} {x y : Rat} {kx ky : Nat} [h : PsA W V L k] [hx : CA W (.agg #[.bool gx, .slice ax lx cx, .slice aax llx ccx]) x kx] [hy : CA W (.agg #[.bool gy, .slice ay ly cy, .slice aay lly ccy]) y ky] (bx : kx ≤ k) (b_y : ky ≤ k) : PsA W (V ++ [⟨gx, ax, lx, cx, aax, llx, ccx, gy, ay, ly, cy, aay, lly, ccy⟩]) (L ++ [(x, y)]) k := h.snoc hx hy bx b_y
class PsQ (W : World) (V : List AV) (L : outParam (List (Rat × Rat))) (k : outParam Nat) : Prop where
  len : V.length = L.length
  x : ∀ i, i < V.length → CQ W (.agg #[.bool (av V i).gx, .slice (av V i).ax (av V i).lx (av V i).cx, .slice (av V i).aax (av V i).llx (av V i).ccx]) (pg L i).1 k
  y : ∀ i, i < V.length → CQ W (.agg #[.bool (av V i).gy, .slice (av V i).ay (av V i).ly (av V i).cy, .slice (av V i).aay (av V i).lly (av V i).ccy]) (pg L i).2 k
instance PsQ.al {W : World} {V : List AV} {L : List (Rat × Rat)} {k : Nat} {o : Obj} [h : PsQ W V L k] : PsQ (W.alloc o) V L k := ⟨h.len, fun i hi => by have := h.x i hi; infer_instance, fun i hi => by have := h.y i hi; infer_instance⟩
instance PsQ.dr {W : World} {V : List AV} {L : List (Rat × Rat)} {k : Nat} [h : PsQ W V L k] : PsQ W.drew V L k := ⟨h.len, fun i hi => by have := h.x i hi; infer_instance, fun i hi => by have := h.y i hi; infer_instance⟩
instance (priority := low) PsQ.kp {W W2 : World} {V : List AV} {L : List (Rat × Rat)} {k : Nat} [b : Kp1 W W2] [h : PsQ W V L k] : PsQ W2 V L k := ⟨h.len, fun i hi => by have := h.x i hi; infer_instance, fun i hi => by have := h.y i hi; infer_instance⟩
instance (priority := low) PsQ.tp {W W2 : World} {V : List AV} {L : List (Rat × Rat)} {k : Nat} {g : Nat} [b : Tp1 W W2 g] [h : PsQ W V L k] : PsQ W2 V L k := ⟨h.len, fun i hi => by have := h.x i hi; infer_instance, fun i hi => by have := h.y i hi; infer_instance⟩
instance (priority := low) PsQ.apn {W W2 : World} {V : List AV} {L : List (Rat × Rat)} {k : Nat} [b : Apn W W2] [h : PsQ W V L k] : PsQ W2 V L k := ⟨h.len, fun i hi => by have := h.x i hi; infer_instance, fun i hi => by have := h.y i hi; infer_instance⟩
instance PsQ.ix {W : World} {V : List AV} {L : List (Rat × Rat)} {k : Nat} {i : Nat} [h : PsQ W V L k] [l : LtN i V.length] : CQ W (.agg #[.bool (av V i).gx, .slice (av V i).ax (av V i).lx (av V i).cx, .slice (av V i).aax (av V i).llx (av V i).ccx]) (pg L i).1 k := h.x i l.out
instance PsQ.iy {W : World} {V : List AV} {L : List (Rat × Rat)} {k : Nat} {i : Nat} [h : PsQ W V L k] [l : LtN i V.length] : CQ W (.agg #[.bool (av V i).gy, .slice (av V i).ay (av V i).ly (av V i).cy, .slice (av V i).aay (av V i).lly (av V i).ccy]) (pg L i).2 k := h.y i l.out
theorem PsQ.nil {W : World} {k : Nat} : PsQ W [] [] k := ⟨rfl, fun i hi => by simp at hi, fun i hi => by simp at hi⟩
theorem PsQ.mono {W : World} {V : List AV} {L : List (Rat × Rat)} {k : Nat} {k' : Nat} (h : PsQ W V L k) (b : k ≤ k') : PsQ W V L k' := ⟨h.len, fun i hi => (h.x i hi).cast rfl b, fun i hi => (h.y i hi).cast rfl b⟩
theorem PsQ.snoc {W : World} {V : List AV} {L : List (Rat × Rat)} {k : Nat} {a : AV} {x y : Rat} {kx ky : Nat} (h : PsQ W V L k) (hx : CQ W (.agg #[.bool (a).gx, .slice (a).ax (a).lx (a).cx, .slice (a).aax (a).llx (a).ccx]) x kx) (hy : CQ W (.agg #[.bool (a).gy, .slice (a).ay (a).ly (a).cy, .slice (a).aay (a).lly (a).ccy]) y ky) (bx : kx ≤ k) (b_y : ky ≤ k) : PsQ W (V ++ [a]) (L ++ [(x, y)]) k := by
  refine ⟨by simp [h.len], fun i hi => ?_, fun i hi => ?_⟩
  all_goals
    rcases Nat.lt_or_ge i V.length with hlt | hge
    · have e1 : av (V ++ [a]) i = av V i := by rw [av_get hi, av_get hlt, List.getElem_append_left hlt]
      have e2 : pg (L ++ [(x, y)]) i = pg L i := by rw [pg_get (by rw [List.length_append, ← h.len]; omega), pg_get (by rw [← h.len]; exact hlt), List.getElem_append_left (by rw [← h.len]; exact hlt)]
      rw [e1, e2]
      first
        | exact h.x i hlt
        | exact h.y i hlt
    · have hi' : i = V.length := by simp at hi; omega
      subst hi'
      have e1 : av (V ++ [a]) V.length = a := by rw [av_get hi]; simp
      have e2 : pg (L ++ [(x, y)]) V.length = (x, y) := by rw [h.len, pg_get (by simp)]; simp
      rw [e1, e2]
      first
        | exact hx.cast rfl bx
        | exact hy.cast rfl b_y
theorem PsQ.add {W : World} {V : List AV} {L : List (Rat × Rat)} {k : Nat} {gx gy : Bool} {ax aax ay aay : Option Addr} {lx cx llx ccx ly cy lly ccy : Nat} {x y : Rat} {kx ky : Nat} [h : PsQ W V L k] [hx : CQ W (.agg #[.bool gx, .slice ax lx cx, .slice aax llx ccx]) x kx] [hy : CQ W (.agg #[.bool gy, .slice ay ly cy, .slice aay lly ccy]) y ky] (bx : kx ≤ k) (b_y : ky ≤ k) : PsQ W (V ++ [⟨gx, ax, lx, cx, aax, llx, ccx, gy, ay, ly, cy, aay, lly, ccy⟩]) (L ++ [(x, y)]) k := h.snoc hx hy bx b_y
class PsW (W : World) (V : List AV) (L : outParam (List (Rat × Rat))) (k : outParam Nat) : Prop where
  len : V.length = L.length
  x : ∀ i, i < V.length → CW W (.agg #[.bool (av V i).gx, .slice (av V i).ax (av V i).lx (av V i).cx, .slice (av V i).aax (av V i).llx (av V i).ccx]) (pg L i).1 k
  y : ∀ i, i < V.length → CW W (.agg #[.bool (av V i).gy, .slice (av V i).ay (av V i).ly (av V i).cy, .slice (av V i).aay (av V i).lly (av V i).ccy]) (pg L i).2 k
instance PsW.ix {W : World} {V : List AV} {L : List (Rat × Rat)} {k : Nat} {i : Nat} [h : PsW W V L k] [l : LtN i V.length] : CW W (.agg #[.bool (av V i).gx, .slice (av V i).ax (av V i).lx (av V i).cx, .slice (av V i).aax (av V i).llx (av V i).ccx]) (pg L i).1 k := h.x i l.out
instance PsW.iy {W : World} {V : List AV} {L : List (Rat × Rat)} {k : Nat} {i : Nat} [h : PsW W V L k] [l : LtN i V.length] : CW W (.agg #[.bool (av V i).gy, .slice (av V i).ay (av V i).ly (av V i).cy, .slice (av V i).aay (av V i).lly (av V i).ccy]) (pg L i).2 k := h.y i l.out
def PsFEr (w : World) (L : List (Rat × Rat)) (k : Nat) (e : Ending) (w' : World) : Prop := ∃ (a : Option Addr) (c : Nat) (V : List FV), e = .returned (.tuple #[.slice a V.length c, .nilIface]) ∧ Sl w' (.slice a V.length c) V.length (rowF V) w' ∧ PsF w' V L k ∧ Below w.heap.size w w'
theorem Calls.cPsFEr {P : Program} {f : FuncId} {args : Array Value} {w : World} {L : List (Rat × Rat)} {k : Nat} {K : Ending → World → Prop} (h : Calls P f args w (PsFEr w L k))
    (hK : ∀ w' [Kp1 w w'] (a : Option Addr) (c : Nat) (V : List FV) [Sl w' (.slice a V.length c) V.length (rowF V) w'] [PsF w' V L k], K (.returned (.tuple #[.slice a V.length c, .nilIface])) w') : Calls P f args w K := by
  refine h.mono ?_
  rintro e w' ⟨a, c, V, rfl, hs, hv, hb⟩
  exact @hK w' ⟨hb⟩ a c V hs hv
theorem PsFEr.fin {w w' w0 : World} {a : Option Addr} {c n : Nat} {V : List FV} {L L' : List (Rat × Rat)} {k k' : Nat} [b : Kp w w'] [hs : Sl w' (.slice a n c) V.length (rowF V) w0] [hv : PsF w' V L k] (e : L = L') (m : k ≤ k') : PsFEr w L' k' (.returned (.tuple #[.slice a n c, .nilIface])) w' := by
  obtain rfl := hs.len; subst e; exact ⟨a, c, V, rfl, hs.here, hv.mono m, b.out⟩
def PsARet (w : World) (L : List (Rat × Rat)) (k : Nat) (e : Ending) (w' : World) : Prop := ∃ (a : Option Addr) (c : Nat) (V : List AV), e = .returned (.slice a V.length c) ∧ Sl w' (.slice a V.length c) V.length (rowA V) w' ∧ PsA w' V L k ∧ Below w.heap.size w w'
theorem Calls.cPsARet {P : Program} {f : FuncId} {args : Array Value} {w : World} {L : List (Rat × Rat)} {k : Nat} {K : Ending → World → Prop} (h : Calls P f args w (PsARet w L k))
    (hK : ∀ w' [Kp1 w w'] (a : Option Addr) (c : Nat) (V : List AV) [Sl w' (.slice a V.length c) V.length (rowA V) w'] [PsA w' V L k], K (.returned (.slice a V.length c)) w') : Calls P f args w K := by
  refine h.mono ?_
  rintro e w' ⟨a, c, V, rfl, hs, hv, hb⟩
  exact @hK w' ⟨hb⟩ a c V hs hv
theorem PsARet.fin {w w' w0 : World} {a : Option Addr} {c n : Nat} {V : List AV} {L L' : List (Rat × Rat)} {k k' : Nat} [b : Kp w w'] [hs : Sl w' (.slice a n c) V.length (rowA V) w0] [hv : PsA w' V L k] (e : L = L') (m : k ≤ k') : PsARet w L' k' (.returned (.slice a n c)) w' := by
  obtain rfl := hs.len; subst e; exact ⟨a, c, V, rfl, hs.here, hv.mono m, b.out⟩
def PsQRet (w : World) (L : List (Rat × Rat)) (k : Nat) (e : Ending) (w' : World) : Prop := ∃ (a : Option Addr) (c : Nat) (V : List AV), e = .returned (.slice a V.length c) ∧ Sl w' (.slice a V.length c) V.length (rowA V) w' ∧ PsQ w' V L k ∧ Below w.heap.size w w'
theorem Calls.cPsQRet {P : Program} {f : FuncId} {args : Array Value} {w : World} {L : List (Rat × Rat)} {k : Nat} {K : Ending → World → Prop} (h : Calls P f args w (PsQRet w L k))
    (hK : ∀ w' [Kp1 w w'] (a : Option Addr) (c : Nat) (V : List AV) [Sl w' (.slice a V.length c) V.length (rowA V) w'] [PsQ w' V L k], K (.returned (.slice a V.length c)) w') : Calls P f args w K := by
  refine h.mono ?_
  rintro e w' ⟨a, c, V, rfl, hs, hv, hb⟩
  exact @hK w' ⟨hb⟩ a c V hs hv
theorem PsQRet.fin {w w' w0 : World} {a : Option Addr} {c n : Nat} {V : List AV} {L L' : List (Rat × Rat)} {k k' : Nat} [b : Kp w w'] [hs : Sl w' (.slice a n c) V.length (rowA V) w0] [hv : PsQ w' V L k] (e : L = L') (m : k ≤ k') : PsQRet w L' k' (.returned (.slice a n c)) w' := by
  obtain rfl := hs.len; subst e; exact ⟨a, c, V, rfl, hs.here, hv.mono m, b.out⟩
theorem PsW.of {W : World} {V : List AV} {L : List (Rat × Rat)} {k : Nat} (h : PsA W V L k) : PsW W V L k := ⟨h.len, fun i hi => by have := h.x i hi; infer_instance, fun i hi => by have := h.y i hi; infer_instance⟩
instance (priority := low) PsW.ofA {W : World} {V : List AV} {L : List (Rat × Rat)} {k : Nat} [h : PsA W V L k] : PsW W V L k := PsW.of h
theorem info_f : (Tryz.prog.info? 152).map (fun i => (i.zero, i.size, i.bytes)) = some (some (.agg #[.int .i64 0, .int .i64 0, .pointer none, .int .i64 0, .int .i64 0, .pointer none]), 6, 48) := by kernel_rfl
theorem info_a : (Tryz.prog.info? 31).map (fun i => (i.zero, i.size, i.bytes)) = some (some (.agg #[.bool false, .slice none 0 0, .slice none 0 0, .bool false, .slice none 0 0, .slice none 0 0]), 6, 112) := by kernel_rfl
theorem info_q : (Tryz.prog.info? 47).map (fun i => (i.zero, i.size, i.bytes)) = some (some (.agg #[.bool false, .slice none 0 0, .slice none 0 0, .bool false, .slice none 0 0, .slice none 0 0]), 6, 112) := by kernel_rfl
end
section
def dsc (L : List (Rat × Rat)) : Nat → Nat
  | 0 => 0
  | k + 1 => dsc L k + if pg L k ∈ L.take k then 0 else 1
theorem dsc_mono (L : List (Rat × Rat)) {a b : Nat} (h : a ≤ b) : dsc L a ≤ dsc L b := by
  induction b with
  | zero => have : a = 0 := by omega
            subst this; exact Nat.le_refl _
  | succ b ih =>
    rcases Nat.lt_or_ge b a with hlt | hge
    · have : a = b + 1 := by omega
      subst this; exact Nat.le_refl _
    · exact Nat.le_trans (ih hge) (by simp only [dsc]; omega)
theorem mem_take_pg {L : List (Rat × Rat)} {k : Nat} (hk : k ≤ L.length) {p : Rat × Rat} : p ∈ L.take k ↔ ∃ j, j < k ∧ pg L j = p := by
  rw [List.mem_iff_getElem]; constructor
  · rintro ⟨j, hj, e⟩
    have h1 : j < k := by rw [List.length_take] at hj; omega
    exact ⟨j, h1, by rw [pg_get (by omega), ← e, List.getElem_take]⟩
  · rintro ⟨j, hj, e⟩
    refine ⟨j, by rw [List.length_take]; omega, ?_⟩
    rw [List.getElem_take, ← e, pg_get (by omega)]
structure RingOK (L : List (Rat × Rat)) : Prop where
  three : 3 ≤ dsc L L.length
  edge : ∀ i, i < L.length → pg L i ≠ pg L ((i + 1) % L.length)
theorem RingOK.pos {L : List (Rat × Rat)} (h : RingOK L) : 0 < L.length := by
  rcases Nat.eq_zero_or_pos L.length with e | e
  · have := h.three
    rw [e] at this; simp [dsc] at this
  · exact e
theorem dsc_three {L : List (Rat × Rat)} (h3 : 3 ≤ L.length) (h1 : pg L 1 ≠ pg L 0) (h2 : pg L 2 ≠ pg L 0) (h4 : pg L 2 ≠ pg L 1) : 3 ≤ dsc L L.length := by
  refine Nat.le_trans ?_ (dsc_mono L h3)
  have e1 : pg L 1 ∉ L.take 1 := by
    rw [mem_take_pg (by omega)]
    rintro ⟨j, hj, e⟩
    have : j = 0 := by omega
    subst this; exact h1 e.symm
  have e2 : pg L 2 ∉ L.take 2 := by
    rw [mem_take_pg (by omega)]
    rintro ⟨j, hj, e⟩
    rcases (by omega : j = 0 ∨ j = 1) with rfl | rfl
    · exact h2 e.symm
    · exact h4 e.symm
  simp [dsc, e1, e2]
def FirstAt (L : List (Rat × Rat)) (p : Rat × Rat) (m : Nat) : Prop := m < L.length ∧ pg L m = p ∧ ∀ j, j < m → pg L j ≠ p
theorem FirstAt.new {L : List (Rat × Rat)} {i m : Nat} (hi : i < L.length) (h : FirstAt L (pg L i) m) : m = i ↔ pg L i ∉ L.take i := by
  rw [mem_take_pg (by omega)]; constructor
  · rintro rfl ⟨j, hj, e⟩
    exact h.2.2 j hj e
  · intro hn
    rcases Nat.lt_trichotomy m i with hlt | rfl | hgt
    · exact absurd ⟨m, hlt, h.2.1⟩ hn
    · rfl
    · exact absurd rfl (h.2.2 i hgt)
end
section
theorem rsgn_isgn (x : Rat) : rsgn x = isgn x.num := by
  unfold rsgn isgn
  repeat' split
  all_goals omega
theorem isgn0 {z : Int} : isgn z = 0 ↔ z = 0 := by
  unfold isgn
  repeat' split
  all_goals omega
theorem cmp_same {x y : Rat} (h : x.den = y.den) : isgn (x - y).num = if x.num < y.num then -1 else if x.num = y.num then 0 else 1 := by
  rw [← rsgn_isgn]; exact sub_same_den h
theorem inv_sgn {x : Rat} (h : x ≠ 0) : mkRat (sgn (decide (x.num < 0)) x.den) x.num.natAbs = x⁻¹ := by
  rw [rat_inv_mk x h]
  by_cases hn : x.num < 0 <;> simp [hn, sgn]
theorem Calls.cZn {P : Program} {f : FuncId} {args : Array Value} {w : World} {x : Int} {k : Nat} {K : Ending → World → Prop} (h : Calls P f args w (CZRet w x k))
    (hK : ∀ w' [Kp1 w w'] (g : Bool) (a : Option Addr) (l : Nat) (c : Nat) [CZ w' (.agg #[.bool g, .slice a l c]) x k] [CN w' (.slice a l c) x.natAbs k], K (.returned (.agg #[.bool g, .slice a l c])) w') : Calls P f args w K := by
  refine h.mono ?_
  rintro e w' ⟨g, a, l, c, rfl, hx, hb⟩
  exact @hK w' ⟨hb⟩ g a l c hx ⟨(zz_of hx).2⟩
theorem rZeroC {w : World} {n1 d1 : Int} {p1 : Option Addr} {x : Rat} {k1 : Nat} [h1 : CF w (.agg #[.int .i64 n1, .int .i64 d1, .pointer p1]) x k1]  :
    Calls Tryz.prog 225 #[.agg #[.int .i64 n1, .int .i64 d1, .pointer p1]] w (fun e w' => e = .returned (.bool (decide (x = 0))) ∧ Below w.heap.size w w') := by
  rcases CF.cases h1 with ⟨rfl, en1, ed1, bn1, bm1, bd1, be1, bk1⟩ | ⟨rfl, rfl, hq1, q1, G1, A1, L1, C1, AA1, LL1, CC1, rfl, hB1, hZ1, hN1⟩
  · by_cases hx : x = 0
    · have HE : Hid (decide (x = 0) = true) := by show _ = _; simp [hx]
      obtain rfl : n1 = 0 := by rw [← en1, hx]; rfl
      clear hx en1 ed1; go_enter Tryz.func225, Tryz.ntmps225; go_wp2; go_ret
      exact E.fin (by rw [HE.out]; rfl)
    · have HE : Hid (decide (x = 0) = false) := by show _ = _; simp [hx]
      have hn : (n1 == 0) = false := by rw [beq_eq_false_iff_ne]; intro e; exact hx (Rat.num_eq_zero.1 (by rw [en1, e]))
      clear hx en1 ed1; go_enter Tryz.func225, Tryz.ntmps225; go_wp2; go_ret
      exact E.fin (by rw [HE.out]; rfl)
  · have HE : Hid (decide (x = 0) = false) := by show _ = _; simp [hq1]
    go_enter Tryz.func225, Tryz.ntmps225; go_wp2; go_ret
    exact E.fin (by rw [HE.out]; rfl)
theorem rCmpC {w : World} {n1 d1 n2 d2 : Int} {p1 p2 : Option Addr} {x y : Rat} {k1 k2 : Nat} [h1 : CF w (.agg #[.int .i64 n1, .int .i64 d1, .pointer p1]) x k1] [h2 : CF w (.agg #[.int .i64 n2, .int .i64 d2, .pointer p2]) y k2] (b : k1 ≤ 100000 ∧ k2 ≤ 100000) :
    Calls Tryz.prog 204 #[.agg #[.int .i64 n1, .int .i64 d1, .pointer p1], .agg #[.int .i64 n2, .int .i64 d2, .pointer p2]] w (fun e w' => e = .returned (.int .i64 (isgn (x - y).num)) ∧ Below w.heap.size w w') := by
  rcases CF.cases h1 with ⟨rfl, en1, ed1, bn1, bm1, bd1, be1, bk1⟩ | ⟨rfl, rfl, hq1, q1, G1, A1, L1, C1, AA1, LL1, CC1, rfl, hB1, hZ1, hN1⟩
  · rcases CF.cases h2 with ⟨rfl, en2, ed2, bn2, bm2, bd2, be2, bk2⟩ | ⟨rfl, rfl, hq2, q2, G2, A2, L2, C2, AA2, LL2, CC2, rfl, hB2, hZ2, hN2⟩
    · by_cases hd : d1 = d2
      · obtain rfl : d1 = d2 := hd; have HC := Lib.hid (cmp_same (x := x) (y := y) (by omega)); rw [en1, en2] at HC; clear en1 en2 ed1 ed2
        rcases Int.lt_trichotomy n1 n2 with h | h | h
        · have HE : Hid (isgn (x - y).num = -1) := by show _ = _; rw [HC.out, if_pos h]
          go_enter Tryz.func204, Tryz.ntmps204; go_wp2; go_ret
          exact E.fin (by rw [HE.out]; rfl)
        · subst h
          have HE : Hid (isgn (x - y).num = 0) := by show _ = _; rw [HC.out, if_neg (by omega), if_pos rfl]
          go_enter Tryz.func204, Tryz.ntmps204; go_wp2; go_ret
          exact E.fin (by rw [HE.out]; rfl)
        · have HE : Hid (isgn (x - y).num = 1) := by show _ = _; rw [HC.out, if_neg (by omega), if_neg (by omega)]
          go_enter Tryz.func204, Tryz.ntmps204; go_wp2; go_ret
          exact E.fin (by rw [HE.out]; rfl)
      · have q : (d1 == d2) = false := by rw [beq_eq_false_iff_ne]; exact hd
        clear en1 en2 ed1 ed2 hd; go_enter Tryz.func204, Tryz.ntmps204
        go_wp2_with (first
    | (go_at_call 214; (with_reducible refine Calls.cF (rSubC (by omega)) ?_); intros)
    | (go_at_call 171; (with_reducible refine Calls.cE (rSignC (by omega)) ?_); intros))
        go_ret; exact E.fin rfl
    · clear en1 ed1; go_enter Tryz.func204, Tryz.ntmps204
      go_wp2_with (first
    | (go_at_call 214; (with_reducible refine Calls.cF (rSubC (by omega)) ?_); intros)
    | (go_at_call 171; (with_reducible refine Calls.cE (rSignC (by omega)) ?_); intros))
      go_ret; exact E.fin rfl
  · go_enter Tryz.func204, Tryz.ntmps204
    go_wp2_with (first
    | (go_at_call 214; (with_reducible refine Calls.cF (rSubC (by omega)) ?_); intros)
    | (go_at_call 171; (with_reducible refine Calls.cE (rSignC (by omega)) ?_); intros))
    go_ret; exact E.fin rfl
theorem rEqualC {w : World} {n1 d1 n2 d2 : Int} {p1 p2 : Option Addr} {x y : Rat} {k1 k2 : Nat} [h1 : CF w (.agg #[.int .i64 n1, .int .i64 d1, .pointer p1]) x k1] [h2 : CF w (.agg #[.int .i64 n2, .int .i64 d2, .pointer p2]) y k2] (b : k1 ≤ 100000 ∧ k2 ≤ 100000) :
    Calls Tryz.prog 167 #[.agg #[.int .i64 n1, .int .i64 d1, .pointer p1], .agg #[.int .i64 n2, .int .i64 d2, .pointer p2]] w (fun e w' => e = .returned (.bool (decide (x = y))) ∧ Below w.heap.size w w') := by
  by_cases hx : x = y
  · have HE : Hid (decide (x = y) = true) := by show _ = _; simp [hx]
    have e0 : isgn (x - y).num = 0 := by rw [isgn0, hx, Rat.num_eq_zero]; grind
    clear hx; go_enter Tryz.func167, Tryz.ntmps167
    go_wp2_with (first
    | (go_at_call 204; (with_reducible refine Calls.cE (rCmpC (by omega)) ?_); intros))
    go_ret
    exact E.fin (by rw [HE.out]; rfl)
  · have HE : Hid (decide (x = y) = false) := by show _ = _; simp [hx]
    have e0 : (isgn (x - y).num == 0) = false := by
      rw [beq_eq_false_iff_ne]; intro e
      rw [isgn0, Rat.num_eq_zero] at e; exact hx (by grind)
    clear hx; go_enter Tryz.func167, Tryz.ntmps167
    go_wp2_with (first
    | (go_at_call 204; (with_reducible refine Calls.cE (rCmpC (by omega)) ?_); intros))
    go_ret
    exact E.fin (by rw [HE.out]; rfl)
theorem rInvC {w : World} {n1 d1 : Int} {p1 : Option Addr} {x : Rat} {k1 : Nat} [h1 : CF w (.agg #[.int .i64 n1, .int .i64 d1, .pointer p1]) x k1] (b : k1 ≤ 400000) :
    Calls Tryz.prog 276 #[.agg #[.int .i64 n1, .int .i64 d1, .pointer p1]] w (CFRet w x⁻¹ (k1 + 2)) := by
  rcases CF.cases h1 with ⟨rfl, en1, ed1, bn1, bm1, bd1, be1, bk1⟩ | ⟨rfl, rfl, hq1, q1, G1, A1, L1, C1, AA1, LL1, CC1, rfl, hB1, hZ1, hN1⟩
  · rcases Int.lt_trichotomy n1 0 with h | h | h
    · have HF : Hid (∀ W : World, CF W (.agg #[.int .i64 (-(d1 + 1)), .int .i64 (-n1 - 1), .pointer none]) x⁻¹ (k1 + 2)) := fun W => CF.small (by rw [inv_num, en1, ed1, Int.sign_eq_neg_one_of_neg h]; omega) (by rw [inv_den (by omega), en1]; omega) (by omega) (by omega) (by omega) (by omega)
      clear en1 ed1; go_enter Tryz.func276, Tryz.ntmps276; go_wp2; refine ret_bx rfl Tryz.underlying147 rfl (by kernel_rfl) rfl rfl rfl ?_; exact CFRet.fin (hx := HF.out _) rfl (by omega)
    · have HF : Hid (∀ W : World, CF W (.agg #[.int .i64 0, .int .i64 0, .pointer none]) x⁻¹ (k1 + 2)) := fun W => by
        rw [show x = 0 from Rat.num_eq_zero.1 (by omega), Rat.inv_zero]; exact CF.zero (by omega)
      subst h; clear en1 ed1; go_enter Tryz.func276, Tryz.ntmps276; go_wp2; refine ret_bx rfl Tryz.underlying147 rfl (by kernel_rfl) rfl rfl rfl ?_; exact CFRet.fin (hx := HF.out _) rfl (by omega)
    · have HF : Hid (∀ W : World, CF W (.agg #[.int .i64 (d1 + 1), .int .i64 (n1 - 1), .pointer none]) x⁻¹ (k1 + 2)) := fun W => CF.small (by rw [inv_num, en1, ed1, Int.sign_eq_one_of_pos h]; omega) (by rw [inv_den (by omega), en1]; omega) (by omega) (by omega) (by omega) (by omega)
      clear en1 ed1; go_enter Tryz.func276, Tryz.ntmps276; go_wp2; refine ret_bx rfl Tryz.underlying147 rfl (by kernel_rfl) rfl rfl rfl ?_; exact CFRet.fin (hx := HF.out _) rfl (by omega)
  · have hz := zz_of hZ1
    have i1 : CN w (.slice A1 L1 C1) x.num.natAbs k1 := ⟨hz.2⟩
    have HE := Lib.hid (show mkRat (sgn G1 x.den) x.num.natAbs = x⁻¹ by rw [hz.1]; exact inv_sgn hq1)
    clear hz; go_enter Tryz.func276, Tryz.ntmps276; go_wp2_with fail; refine rgn [w.heap.size + 1] [] fun hH => ?_; refine tk 0 hH ?_; refine tk 1 hH ?_; refine tk 2 hH ?_; refine tk 3 hH ?_; refine tk 4 hH ?_; refine tk 5 hH ?_; refine tk 6 hH ?_; refine tk 7 hH ?_; refine tk 8 hH ?_; refine tk 9 hH ?_; refine tk 10 hH ?_; refine tk 11 hH ?_; refine tk 12 hH ?_; refine tk 13 hH ?_; refine tk 14 hH ?_; refine tk 15 hH ?_; refine tk 16 hH ?_; refine tk 17 hH ?_; refine st 18 fun K hK => ?_; go_simp; (with_reducible refine Calls.cF (reduceC (by omega)) ?_); intros; refine hd hK ?_; clear hH hK K; intro hH; refine st 19 fun K hK => ?_; go_simp; refine hd hK ?_; clear hH hK K; intro hH; refine dn ?_; clear hH; go_wp2; refine ret_bx rfl Tryz.underlying147 rfl (by kernel_rfl) rfl rfl rfl ?_; exact CFRet.fin HE.out (by omega)
theorem rQuoC {w : World} {n1 d1 n2 d2 : Int} {p1 p2 : Option Addr} {x y : Rat} {k1 k2 : Nat} [h1 : CF w (.agg #[.int .i64 n1, .int .i64 d1, .pointer p1]) x k1] [h2 : CF w (.agg #[.int .i64 n2, .int .i64 d2, .pointer p2]) y k2] (b : k1 ≤ 100000 ∧ k2 ≤ 100000) :
    Calls Tryz.prog 226 #[.agg #[.int .i64 n1, .int .i64 d1, .pointer p1], .agg #[.int .i64 n2, .int .i64 d2, .pointer p2]] w (CFRet w (x / y) (k1 + k2 + 4)) := by
  have HE := Lib.hid (Rat.div_def x y); go_enter Tryz.func226, Tryz.ntmps226; go_wp2_with fail; refine rgn [w.heap.size + 1 + 1] [] fun hH => ?_; refine tk 0 hH ?_; refine tk 1 hH ?_; refine st 2 fun K hK => ?_; go_simp; (with_reducible refine Calls.cF (rInvC (by omega)) ?_); intros; refine hd hK ?_; clear hH hK K; intro hH; refine st 3 fun K hK => ?_; go_simp; (with_reducible refine Calls.cF (rMulC (by omega)) ?_); intros; refine hd hK ?_; clear hH hK K; intro hH; refine st 4 fun K hK => ?_; go_simp; refine hd hK ?_; clear hH hK K; intro hH; refine dn ?_; clear hH; go_wp2; refine ret_bx rfl Tryz.underlying147 rfl (by kernel_rfl) rfl rfl rfl ?_; exact CFRet.fin HE.out.symm (by omega)
end
section
theorem CQ.len {w : World} {g : Bool} {a aa : Option Addr} {l c ll cc : Nat} {x : Rat} {k : Nat} (h : CQ w (.agg #[.bool g, .slice a l c, .slice aa ll cc]) x k) : (x.den = 1 → ll = 0) ∧ (x.den ≠ 1 → 0 < ll) := by
  have hl := h.den.out.len
  refine ⟨fun e => ?_, fun e => ?_⟩
  · rw [if_pos e] at hl; exact hl
  · rw [if_neg e] at hl; rw [hl]; exact nf_len_pos x.den_nz
theorem add_parts (x y : Rat) : mkRat (x.num * sgn false y.den + y.num * sgn false x.den) (x.den * y.den) = x + y := by rw [rat_add_mk]; rfl
theorem mul_parts (x y : Rat) : mkRat (x.num * y.num) (x.den * y.den) = x * y := (rat_mul_mk x y).symm
theorem numSC {w : World} {g1 : Bool} {a1 aa1 : Option Addr} {l1 c1 ll1 cc1 k1 : Nat} {x : Rat} [h1 : CQ w (.agg #[.bool g1, .slice a1 l1 c1, .slice aa1 ll1 cc1]) x k1] :
    Calls Tryz.prog 54 #[.agg #[.bool g1, .slice a1 l1 c1, .slice aa1 ll1 cc1]] w (fun e w' => e = .returned (.int .i64 (isgn x.num)) ∧ Below w.heap.size w w') := by
  have i1 := h1.num
  go_enter Tryz.func54, Tryz.ntmps54
  go_wp2_with (first
    | (go_at_call 116; (with_reducible refine Calls.cE (numSignC) ?_); intros))
  go_ret; exact E.fin rfl
theorem numOppC {w : World} {g1 : Bool} {a1 aa1 : Option Addr} {l1 c1 ll1 cc1 k1 : Nat} {x : Rat} [h1 : CQ w (.agg #[.bool g1, .slice a1 l1 c1, .slice aa1 ll1 cc1]) x k1] :
    Calls Tryz.prog 203 #[.agg #[.bool g1, .slice a1 l1 c1, .slice aa1 ll1 cc1]] w (CQRet w (-x) k1) := by
  have i1 := h1.num
  have i2 := h1.den
  go_enter Tryz.func203, Tryz.ntmps203; go_wp2_with fail; refine rgn [w.heap.size + 1] [] fun hH => ?_; refine tk 0 hH ?_; refine tk 1 hH ?_; refine tk 3 hH ?_; refine tk 4 hH ?_; refine st 2 fun K hK => ?_; go_simp; (with_reducible refine Calls.cZ (numMinusC) ?_); intros; refine hd hK ?_; clear hH hK K; intro hH; refine tk 5 hH ?_; refine st 6 fun K hK => ?_; go_simp; refine hd hK ?_; clear hH hK K; intro hH; refine dn ?_; clear hH; go_wp2; refine ret_bx rfl Tryz.underlying45 rfl (by kernel_rfl) rfl rfl rfl ?_; exact CQRet.fin (hx := CQ.mk' (k := k1) (Rat.neg_num x).symm (by rw [Rat.neg_den]) (Nat.le_refl _) (Nat.le_refl _)) rfl (Nat.le_refl _)
theorem numPlusC {w : World} {g1 g2 : Bool} {a1 aa1 a2 aa2 : Option Addr} {l1 c1 ll1 cc1 l2 c2 ll2 cc2 k1 k2 : Nat} {x y : Rat} [h1 : CQ w (.agg #[.bool g1, .slice a1 l1 c1, .slice aa1 ll1 cc1]) x k1] [h2 : CQ w (.agg #[.bool g2, .slice a2 l2 c2, .slice aa2 ll2 cc2]) y k2] (b : k1 ≤ 40000 ∧ k2 ≤ 40000) :
    Calls Tryz.prog 55 #[.agg #[.bool g1, .slice a1 l1 c1, .slice aa1 ll1 cc1], .agg #[.bool g2, .slice a2 l2 c2, .slice aa2 ll2 cc2]] w (CQRet w (x + y) (k1 + k2 + 4)) := by
  have i1 := h1.num
  have i2 := h2.num
  obtain ⟨p1, p2⟩ := h1.len; obtain ⟨p3, p4⟩ := h2.len
  have hm : x.den * y.den ≠ 0 := Nat.mul_ne_zero x.den_nz y.den_nz
  have HE := Lib.hid (add_parts x y)
  by_cases hx : x.den = 1
  · have l1 := p1 hx
    clear p1 p2
    by_cases hy : y.den = 1
    · have l2 := p3 hy
      clear p3 p4; have HF := Lib.hid (rat_add1 (x := x) (y := y) hx hy)
      subst l1 l2
      clear hx hy; go_enter Tryz.func55, Tryz.ntmps55
      go_wp2_with (first
    | (go_at_call 117; (with_reducible refine Calls.cZ (numAddC (by omega)) ?_); intros))
      refine ret_bx rfl Tryz.underlying45 rfl (by kernel_rfl) rfl rfl rfl ?_; exact CQRet.fin (by exact HF.out.symm) (by omega)
    · have l2 := p4 hy
      clear p3 p4; subst l1; clear hx hy; go_enter Tryz.func55, Tryz.ntmps55; go_wp2_with fail; refine rgn [w.heap.size + 1 + 1] [] fun hH => ?_; refine tk 0 hH ?_; refine tk 1 hH ?_; refine tk 2 hH ?_; refine tk 6 hH ?_; refine tk 7 hH ?_; refine tk 8 hH ?_; refine tk 13 hH ?_; refine tk 15 hH ?_; refine st 3 fun K hK => ?_; go_simp; (with_reducible refine Calls.cN (numDenC) ?_); intros; refine hd hK ?_; clear hH hK K; intro hH; refine st 4 fun K hK => ?_; go_simp; (with_reducible refine Calls.cSg (makeC) ?_); intros; refine hd hK ?_; clear hH hK K; intro hH; refine st 5 fun K hK => ?_; go_simp; (with_reducible refine Calls.cZ (numMulC (by omega)) ?_); intros; refine hd hK ?_; clear hH hK K; intro hH; refine st 9 fun K hK => ?_; go_simp; (with_reducible refine Calls.cN (numDenC) ?_); intros; refine hd hK ?_; clear hH hK K; intro hH; refine st 10 fun K hK => ?_; go_simp; (with_reducible refine Calls.cSg (makeC) ?_); intros; refine hd hK ?_; clear hH hK K; intro hH; refine st 11 fun K hK => ?_; go_simp; (with_reducible refine Calls.cZ (numMulC (by omega)) ?_); intros; refine hd hK ?_; clear hH hK K; intro hH; refine st 12 fun K hK => ?_; go_simp; (with_reducible refine Calls.cZ (numAddC (by omega)) ?_); intros; refine hd hK ?_; clear hH hK K; intro hH; refine st 14 fun K hK => ?_; go_simp; (with_reducible refine Calls.cN (numDenC) ?_); intros; refine hd hK ?_; clear hH hK K; intro hH; refine st 16 fun K hK => ?_; go_simp; (with_reducible refine Calls.cN (numDenC) ?_); intros; refine hd hK ?_; clear hH hK K; intro hH; refine st 17 fun K hK => ?_; go_simp; (with_reducible refine Calls.cN (numProductC (by omega)) ?_); intros; refine hd hK ?_; clear hH hK K; intro hH; refine st 18 fun K hK => ?_; go_simp; (with_reducible refine Calls.cQ (numFracC (by omega) hm) ?_); intros; refine hd hK ?_; clear hH hK K; intro hH; refine st 19 fun K hK => ?_; go_simp; refine hd hK ?_; clear hH hK K; intro hH; refine dn ?_; clear hH; go_wp2; refine ret_bx rfl Tryz.underlying45 rfl (by kernel_rfl) rfl rfl rfl ?_; exact CQRet.fin HE.out (by omega)
  · have l1 := p2 hx
    clear p1 p2 p3 p4 hx; go_enter Tryz.func55, Tryz.ntmps55; go_wp2_with fail; refine rgn [w.heap.size + 1 + 1] [] fun hH => ?_; refine tk 0 hH ?_; refine tk 1 hH ?_; refine tk 2 hH ?_; refine tk 6 hH ?_; refine tk 7 hH ?_; refine tk 8 hH ?_; refine tk 13 hH ?_; refine tk 15 hH ?_; refine st 3 fun K hK => ?_; go_simp; (with_reducible refine Calls.cN (numDenC) ?_); intros; refine hd hK ?_; clear hH hK K; intro hH; refine st 4 fun K hK => ?_; go_simp; (with_reducible refine Calls.cSg (makeC) ?_); intros; refine hd hK ?_; clear hH hK K; intro hH; refine st 5 fun K hK => ?_; go_simp; (with_reducible refine Calls.cZ (numMulC (by omega)) ?_); intros; refine hd hK ?_; clear hH hK K; intro hH; refine st 9 fun K hK => ?_; go_simp; (with_reducible refine Calls.cN (numDenC) ?_); intros; refine hd hK ?_; clear hH hK K; intro hH; refine st 10 fun K hK => ?_; go_simp; (with_reducible refine Calls.cSg (makeC) ?_); intros; refine hd hK ?_; clear hH hK K; intro hH; refine st 11 fun K hK => ?_; go_simp; (with_reducible refine Calls.cZ (numMulC (by omega)) ?_); intros; refine hd hK ?_; clear hH hK K; intro hH; refine st 12 fun K hK => ?_; go_simp; (with_reducible refine Calls.cZ (numAddC (by omega)) ?_); intros; refine hd hK ?_; clear hH hK K; intro hH; refine st 14 fun K hK => ?_; go_simp; (with_reducible refine Calls.cN (numDenC) ?_); intros; refine hd hK ?_; clear hH hK K; intro hH; refine st 16 fun K hK => ?_; go_simp; (with_reducible refine Calls.cN (numDenC) ?_); intros; refine hd hK ?_; clear hH hK K; intro hH; refine st 17 fun K hK => ?_; go_simp; (with_reducible refine Calls.cN (numProductC (by omega)) ?_); intros; refine hd hK ?_; clear hH hK K; intro hH; refine st 18 fun K hK => ?_; go_simp; (with_reducible refine Calls.cQ (numFracC (by omega) hm) ?_); intros; refine hd hK ?_; clear hH hK K; intro hH; refine st 19 fun K hK => ?_; go_simp; refine hd hK ?_; clear hH hK K; intro hH; refine dn ?_; clear hH; go_wp2; refine ret_bx rfl Tryz.underlying45 rfl (by kernel_rfl) rfl rfl rfl ?_; exact CQRet.fin HE.out (by omega)
theorem numTimesC {w : World} {g1 g2 : Bool} {a1 aa1 a2 aa2 : Option Addr} {l1 c1 ll1 cc1 l2 c2 ll2 cc2 k1 k2 : Nat} {x y : Rat} [h1 : CQ w (.agg #[.bool g1, .slice a1 l1 c1, .slice aa1 ll1 cc1]) x k1] [h2 : CQ w (.agg #[.bool g2, .slice a2 l2 c2, .slice aa2 ll2 cc2]) y k2] (b : k1 ≤ 40000 ∧ k2 ≤ 40000) :
    Calls Tryz.prog 147 #[.agg #[.bool g1, .slice a1 l1 c1, .slice aa1 ll1 cc1], .agg #[.bool g2, .slice a2 l2 c2, .slice aa2 ll2 cc2]] w (CQRet w (x * y) (k1 + k2 + 4)) := by
  have i1 := h1.num
  have i2 := h2.num
  obtain ⟨p1, p2⟩ := h1.len; obtain ⟨p3, p4⟩ := h2.len
  have hm : x.den * y.den ≠ 0 := Nat.mul_ne_zero x.den_nz y.den_nz
  have HE := Lib.hid (mul_parts x y)
  by_cases hx : x.den = 1
  · have l1 := p1 hx
    clear p1 p2
    by_cases hy : y.den = 1
    · have l2 := p3 hy
      clear p3 p4; have HF := Lib.hid (rat_mul1 (x := x) (y := y) hx hy)
      subst l1 l2
      clear hx hy; go_enter Tryz.func147, Tryz.ntmps147
      go_wp2_with (first
    | (go_at_call 118; (with_reducible refine Calls.cZ (numMulC (by omega)) ?_); intros))
      refine ret_bx rfl Tryz.underlying45 rfl (by kernel_rfl) rfl rfl rfl ?_; exact CQRet.fin (by exact HF.out.symm) (by omega)
    · have l2 := p4 hy
      clear p3 p4; subst l1; clear hx hy; go_enter Tryz.func147, Tryz.ntmps147; go_wp2_with fail; refine rgn [w.heap.size + 1 + 1] [] fun hH => ?_; refine tk 0 hH ?_; refine tk 1 hH ?_; refine tk 2 hH ?_; refine tk 3 hH ?_; refine tk 5 hH ?_; refine tk 7 hH ?_; refine st 4 fun K hK => ?_; go_simp; (with_reducible refine Calls.cZ (numMulC (by omega)) ?_); intros; refine hd hK ?_; clear hH hK K; intro hH; refine st 6 fun K hK => ?_; go_simp; (with_reducible refine Calls.cN (numDenC) ?_); intros; refine hd hK ?_; clear hH hK K; intro hH; refine st 8 fun K hK => ?_; go_simp; (with_reducible refine Calls.cN (numDenC) ?_); intros; refine hd hK ?_; clear hH hK K; intro hH; refine st 9 fun K hK => ?_; go_simp; (with_reducible refine Calls.cN (numProductC (by omega)) ?_); intros; refine hd hK ?_; clear hH hK K; intro hH; refine st 10 fun K hK => ?_; go_simp; (with_reducible refine Calls.cQ (numFracC (by omega) hm) ?_); intros; refine hd hK ?_; clear hH hK K; intro hH; refine st 11 fun K hK => ?_; go_simp; refine hd hK ?_; clear hH hK K; intro hH; refine dn ?_; clear hH; go_wp2; refine ret_bx rfl Tryz.underlying45 rfl (by kernel_rfl) rfl rfl rfl ?_; exact CQRet.fin HE.out (by omega)
  · have l1 := p2 hx
    clear p1 p2 p3 p4 hx; go_enter Tryz.func147, Tryz.ntmps147; go_wp2_with fail; refine rgn [w.heap.size + 1 + 1] [] fun hH => ?_; refine tk 0 hH ?_; refine tk 1 hH ?_; refine tk 2 hH ?_; refine tk 3 hH ?_; refine tk 5 hH ?_; refine tk 7 hH ?_; refine st 4 fun K hK => ?_; go_simp; (with_reducible refine Calls.cZ (numMulC (by omega)) ?_); intros; refine hd hK ?_; clear hH hK K; intro hH; refine st 6 fun K hK => ?_; go_simp; (with_reducible refine Calls.cN (numDenC) ?_); intros; refine hd hK ?_; clear hH hK K; intro hH; refine st 8 fun K hK => ?_; go_simp; (with_reducible refine Calls.cN (numDenC) ?_); intros; refine hd hK ?_; clear hH hK K; intro hH; refine st 9 fun K hK => ?_; go_simp; (with_reducible refine Calls.cN (numProductC (by omega)) ?_); intros; refine hd hK ?_; clear hH hK K; intro hH; refine st 10 fun K hK => ?_; go_simp; (with_reducible refine Calls.cQ (numFracC (by omega) hm) ?_); intros; refine hd hK ?_; clear hH hK K; intro hH; refine st 11 fun K hK => ?_; go_simp; refine hd hK ?_; clear hH hK K; intro hH; refine dn ?_; clear hH; go_wp2; refine ret_bx rfl Tryz.underlying45 rfl (by kernel_rfl) rfl rfl rfl ?_; exact CQRet.fin HE.out (by omega)
theorem numSubC {w : World} {g1 g2 : Bool} {a1 aa1 a2 aa2 : Option Addr} {l1 c1 ll1 cc1 l2 c2 ll2 cc2 k1 k2 : Nat} {x y : Rat} [h1 : CQ w (.agg #[.bool g1, .slice a1 l1 c1, .slice aa1 ll1 cc1]) x k1] [h2 : CQ w (.agg #[.bool g2, .slice a2 l2 c2, .slice aa2 ll2 cc2]) y k2] (b : k1 ≤ 40000 ∧ k2 ≤ 40000) :
    Calls Tryz.prog 146 #[.agg #[.bool g1, .slice a1 l1 c1, .slice aa1 ll1 cc1], .agg #[.bool g2, .slice a2 l2 c2, .slice aa2 ll2 cc2]] w (CQRet w (x - y) (k1 + k2 + 4)) := by
  have HE := Lib.hid (Rat.sub_eq_add_neg x y); go_enter Tryz.func146, Tryz.ntmps146; go_wp2_with fail; refine rgn [w.heap.size + 1 + 1] [] fun hH => ?_; refine tk 0 hH ?_; refine tk 1 hH ?_; refine st 2 fun K hK => ?_; go_simp; (with_reducible refine Calls.cQ (numOppC) ?_); intros; refine hd hK ?_; clear hH hK K; intro hH; refine st 3 fun K hK => ?_; go_simp; (with_reducible refine Calls.cQ (numPlusC (by omega)) ?_); intros; refine hd hK ?_; clear hH hK K; intro hH; refine st 4 fun K hK => ?_; go_simp; refine hd hK ?_; clear hH hK K; intro hH; refine dn ?_; clear hH; go_wp2; refine ret_bx rfl Tryz.underlying45 rfl (by kernel_rfl) rfl rfl rfl ?_; exact CQRet.fin HE.out.symm (by omega)
theorem numCC {w : World} {g1 g2 : Bool} {a1 aa1 a2 aa2 : Option Addr} {l1 c1 ll1 cc1 l2 c2 ll2 cc2 k1 k2 : Nat} {x y : Rat} [h1 : CQ w (.agg #[.bool g1, .slice a1 l1 c1, .slice aa1 ll1 cc1]) x k1] [h2 : CQ w (.agg #[.bool g2, .slice a2 l2 c2, .slice aa2 ll2 cc2]) y k2] (b : k1 ≤ 40000 ∧ k2 ≤ 40000) :
    Calls Tryz.prog 78 #[.agg #[.bool g1, .slice a1 l1 c1, .slice aa1 ll1 cc1], .agg #[.bool g2, .slice a2 l2 c2, .slice aa2 ll2 cc2]] w (fun e w' => e = .returned (.int .i64 (isgn (x - y).num)) ∧ Below w.heap.size w w') := by
  go_enter Tryz.func78, Tryz.ntmps78
  go_wp2_with (first
    | (go_at_call 146; (with_reducible refine Calls.cQ (numSubC (by omega)) ?_); intros)
    | (go_at_call 54; (with_reducible refine Calls.cE (numSC) ?_); intros))
  go_ret; exact E.fin rfl
theorem refQC {w : World} {g1 : Bool} {a1 aa1 : Option Addr} {l1 c1 ll1 cc1 k1 : Nat} {x : Rat} [h1 : CW w (.agg #[.bool g1, .slice a1 l1 c1, .slice aa1 ll1 cc1]) x k1] (b : k1 ≤ 90000) :
    Calls Tryz.prog 56 #[.agg #[.bool g1, .slice a1 l1 c1, .slice aa1 ll1 cc1]] w (CQRet w x (k1 + 2)) := by
  obtain ⟨z, m, rfl, i1, i2⟩ := CW.parts h1
  by_cases hm : m = 0
  · subst hm; rw [Rat.mkRat_zero]; go_enter Tryz.func56, Tryz.ntmps56; go_wp2_with fail; with_reducible refine Calls.cN (refNC (by omega)) ?_; intro W1 _ a3 l3 c3 i3
    have hl : l3 = 0 := i3.out.len
    subst hl; go_wp2; refine ret_bx rfl Tryz.underlying45 rfl (by kernel_rfl) rfl rfl rfl ?_; exact CQRet.fin (hx := CQ.mk' (z := 0) (n := 0) (k := k1 + 2) (by simp) (by simp) (by omega) (by omega)) rfl (by omega)
  · go_enter Tryz.func56, Tryz.ntmps56; go_wp2_with fail; with_reducible refine Calls.cN (refNC (by omega)) ?_; intro W1 _ a3 l3 c3 i3
    have hl := i3.out.len
    have hl0 : 0 < l3 := by rw [hl]; exact nf_len_pos hm
    clear hl
    go_wp2_with (first
    | (go_at_call 120; (with_reducible refine Calls.cZ (refIC (by omega)) ?_); intros)
    | (go_at_call 75; (with_reducible refine Calls.cQ (numFracC (by omega) hm) ?_); intros))
    refine ret_bx rfl Tryz.underlying45 rfl (by kernel_rfl) rfl rfl rfl ?_; exact CQRet.fin rfl (by omega)
end
end Go.Proofs.YtdlnoeegboapkaaGreatDoor
