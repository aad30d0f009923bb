import Derived.Test.YtpnpnlmlamfpmaaGreatDoorS19
namespace Go.Proofs.YtpnpnlmlamfpmaaGreatDoor
open Go.RowKit
set_option linter.unusedVariables false
set_option maxRecDepth 100000
section
theorem Bx.re {W : World} {b : Nat} {t : TypeId} {l l' : List Value} [h : Bx W b t l] (e : l = l') : Bx W b t l' := by subst e; exact h
theorem Ap {x : Int} (h1 : -9223372036854775808 ≤ x) (h2 : x ≤ 9223372036854775807) : IntKind.i64.wrap x = x := by rw [IntKind.wrap_i64]; omega
class Rn (W : World) (v : Value) (e : outParam TypeId) (sz : outParam Nat) (n : outParam Nat) (xs : outParam (List Value)) (base : outParam Nat) (w0 : outParam World) : Prop where
 rw' : Rw W v e sz n xs base w0
 nd : ∀ g, v.ownBlock = some g → SoftB W g
section
variable {W W2 w0 w1 : World} {v : Value} {e : TypeId} {sz n n' base : Nat} {xs xs' : List Value}
theorem Rn.keep (h : Rn W v e sz n xs base w0) (hs : W.heap.size ≤ W2.heap.size) (hb : ∀ g, v.ownBlock = some g → W2.heap[g]? = W.heap[g]?) : Rn W2 v e sz n xs base w0 :=
 ⟨h.rw'.keep hs hb, fun g eg => by obtain ⟨t, l, h1, h2⟩ := (h.nd g eg).out; exact ⟨t, l, by rw [hb g eg]; exact h1, h2⟩⟩
theorem Rn.nil (hb : base ≤ W.heap.size) : Rn W (.slice none 0 0) e sz 0 [] base W := ⟨Rw.nil hb, fun g eg => by cases eg⟩
theorem Rn.here (h : Rn W v e sz n xs base w0) : Rn W v e sz n xs base W := ⟨h.rw'.here, h.nd⟩
theorem Rn.cast2 (h : Rn W v e sz n xs base w0) (e1 : n = n') (e2 : xs = xs') : Rn W v e sz n' xs' base W := by subst e1; subst e2; exact h.here
theorem Rn.slice (h : Rn W v e sz n xs base w0) : ∃ a c, v = .slice a n c := by
 rcases h.rw'.out.2 with ⟨e1, e2⟩ | ⟨g, cap, cur, e1, _⟩
 ·exact ⟨none, 0, by rw [e1, e2]⟩
 ·exact ⟨_, cap, e1⟩
instance Rn.al {o : Obj} [h : Rn W v e sz n xs base w0] : Rn (W.alloc o) v e sz n xs base w0 := h.keep (by rw [World.size_alloc]; omega) (fun g e => E0 (h.rw'.ltW g e))
instance Rn.dr [h : Rn W v e sz n xs base w0] : Rn W.drew v e sz n xs base w0 := h.keep (Nat.le_refl _) (fun _ _ => rfl)
instance (priority := low) Rn.kp [k : Kp1 W W2] [h : Rn W v e sz n xs base w0] : Rn W2 v e sz n xs base w0 := h.keep k.out.size (fun g e => k.out.block _ (h.rw'.ltW g e))
instance (priority := low) Rn.tp {q : Nat} [k : Tp1 W W2 q] [h : Rn W v e sz n xs base w0] [l : LtN q base] : Rn W2 v e sz n xs base w0 := h.keep k.gb.size
 (fun g e => k.gb.block _ (h.rw'.ltW g e) (fun x => by injection x with x; have := l.out; have := (h.rw'.out.lt g e).1; omega))
instance Rn.st2 {q i : Nat} {x : Value} [h : Rn W v e sz n xs base w0] [l : LtN q base] : Rn (W.setCell ⟨q, i, none⟩ x) v e sz n xs base w0 := h.keep (by rw [World.size_setCell]; omega)
 (fun g e => by simp only [World.setCell, Array.getElem?_modify]; rw [if_neg (by have := l.out; have := (h.rw'.out.lt g e).1; omega)])
class Apn (W : outParam World) (W2 : World) : Prop where out : ∃ row : Option Nat, W.grownBy W2 row ∧ ∀ k, row = some k → SoftB W k
theorem Rd.apn {l : List Nat} (h : Rd W v l) (k : Apn W W2) : Rd W2 v l := by
 obtain ⟨a, cap, rfl, h1, h2, h3, h4⟩ := h; obtain ⟨row, hg, hr⟩ := k.out
 refine ⟨a, cap, rfl, h1, h2, h3, fun h0 => ?_⟩
 obtain ⟨b, off, rfl, hcell⟩ := h4 h0
 refine ⟨b, off, rfl, fun j hj => ?_⟩
 refine hg.cell (hcell j hj) (fun eb => ?_)
 have := (hr b eb.symm).no (hcell j hj)
 simp [Am] at this
theorem Pres.apn (k : Apn W W2) : Pres W W2 := ⟨fun h => ⟨h.1.apn k, h.2⟩, fun h => by obtain ⟨l, h1, h2⟩ := h; exact ⟨l, h1.apn k, h2⟩, fun {b l} y => by
 obtain ⟨row, hg, hr⟩ := k.out; rw [hg.block b (Ep y) (fun eb => ?_)]
 ·exact y
 ·obtain ⟨t, l', h1, h2, _⟩ := (hr b eb.symm).out; rw [h1] at y
  injection y with y
  injection y with _ y2
  exact h2.pair y2⟩
end
variable {W W2 w0 : World} {bt g k n sz : Nat} {v z : Value}
instance (priority := low) CZ.apn {z : Int} [b : Apn W W2] [h : CZ W v z k] : CZ W2 v z k := ⟨h.out.map fun _ _ h => ⟨h.1, (Pres.apn b).nn h.2⟩⟩
variable {q : Rat}
instance (priority := low) CQ.apn [b : Apn W W2] [h : CQ W v q k] : CQ W2 v q k := ⟨h.out.map (Pres.apn b)⟩
instance (priority := low) CA.apn [b : Apn W W2] [h : CA W v q k] : CA W2 v q k := ⟨h.out.map (Pres.apn b)⟩
instance (priority := low) CF.apn [b : Apn W W2] [h : CF W v q k] : CF W2 v q k := ⟨h.out.map (Pres.apn b)⟩
instance (priority := low) Ct.ap {base : Nat} [k : Ap1 W W2 base w0] [h : Ct W g] [n : LtN g base] : Ct W2 g := ⟨h.out.same fun _ hj => k.block (Nat.lt_of_le_of_lt hj h.out.lt) (.inl (Nat.lt_of_le_of_lt hj n.out))⟩
instance (priority := low) Gb.ap {w : World} {base : Nat} [k : Ap1 W W2 base w0] [h : Gb w W g] [n : Gg w base] : Gb w W2 g := ⟨by
 obtain ⟨row, hg, hk⟩ := k.out
 exact Qlq h.out hg (fun i e => Nat.le_trans n.out (hk i e).1)⟩
variable {xs : List Value}
theorem J7 {P : Program} (w : World) (t ty e : TypeId) (i : TypeInfo) (z : Value) (ht : P.underlying t = some (.slice e)) (hi : P.info? e = some i) (hz : i.zero = some z) (he : BoxT e)
  {base : Nat} (hown : w.ownsRow base e i.size v n xs) (hnd : ∀ g, v.ownBlock = some g → SoftB w g) (hx : ∀ u ∈ xs, Am u = false)
  (a : Addr) (m c : Nat) (news : List Value) (hl : news.length = m * i.size) (hnews : ∀ j u, news[j]? = some u → w.cell? (a.add j) = some u) (h1 : ∀ u ∈ news, u.oneCell' = true)
  (hn : ∀ u ∈ news, Am u = false) (hz0 : ∀ u ∈ z.cells.toList, Am u = false) (h63 : n + m ≤ maxLen) (hbytes : (n + m) * i.bytes ≤ 140737488355328) {v' : Value} {w' : World}
  (hr : (Builtin.append_ #[t, t] ty #[v, .slice (some a) m c]).run P w = .ok v' w') : ∀ g, v'.ownBlock = some g → SoftB w' g := by
 have hsmall : n + m ≤ 9223372036854775807 := by simp only [maxLen] at h63; omega
 have zc : ∀ k, ∀ u ∈ (Builtin.zeroCells z.cells k).toList, Am u = false := by
  intro k u hu
  unfold Builtin.zeroCells at hu
  simp only [Array.toList_map, List.mem_map, Array.toList_range, List.mem_range] at hu; obtain ⟨i, hi, rfl⟩ := hu
  have hp : 0 < z.cells.size := by
   rcases Nat.eq_zero_or_pos z.cells.size with e | e
   ·rw [e] at hi; omega
   ·exact e
  rw [getElem!_pos z.cells (i % z.cells.size) (Nat.mod_lt i hp)]; exact hz0 _ (by simp)
 have fresh : ∀ (l : List Value) k, (∀ u ∈ l, Am u = false) → SoftB (w.drew.alloc (.cells (l.toArray ++ Builtin.zeroCells z.cells k) e)) w.heap.size := by
  intro l k hl
  refine ⟨e, l ++ (Builtin.zeroCells z.cells k).toList, ?_, he, ?_⟩
  ·have := heap_alloc_new w.drew (.cells (l.toArray ++ Builtin.zeroCells z.cells k) e)
   refine this.trans ?_
   congr 2
   apply Array.ext'
   simp
  ·intro u hu
   rcases List.mem_append.1 hu with h | h
   ·exact hl u h
   ·exact zc k u h
 rcases hown.2 with ⟨rfl, rfl⟩ | ⟨g, cap, cur, rfl, hbg, hg, hnc, hcm, hcs, htake⟩
 ·have hx0 : xs = [] := List.eq_nil_of_length_eq_zero (by simpa using hown.1)
  subst hx0
  by_cases hm : m = 0
  ·subst hm
   have hn : news = [] := List.eq_nil_of_length_eq_zero (by simpa using hl)
   subst hn
   have h2 : (Builtin.append_ #[t, t] ty #[.slice none 0 0, .slice (some a) 0 c]).run P w = .ok (.slice none 0 0) w := by
    simp [Builtin.append_, run_underlying ht, sizeOf, typeInfo, hi, Builtin.lenOf, Builtin.firstCells, loadCells, loadCellsFrom]
   rw [h2] at hr
   injection hr with e1 e2
   subst e1; subst e2
   intro g eg; cases eg
  ·have h2 := run_append_nil (P := P) w t ty e i z ht hi hz a m c news hl hnews (by omega) (by omega) (by have hb := hbytes; simp only [Nat.zero_add] at hb; omega)
   rw [h2] at hr
   injection hr with e1 e2
   subst e1; subst e2
   intro g eg; simp only [Value.ownBlock, Option.some.injEq] at eg; subst eg; exact fresh _ _ hn
 ·by_cases hroom : n + m ≤ cap
  ·have hfit : n * i.size + news.length ≤ cur.size := by rw [hl, hcs, ← Nat.add_mul]; exact Nat.mul_le_mul_right _ hroom
   have h2 := run_append_room (P := P) w t ty e i ht hi g n cap cur hg a m c news hl hnews h1 hroom hfit
   rw [h2] at hr
   injection hr with e1 e2
   subst e1; subst e2
   intro g' eg; simp only [Value.ownBlock, Option.some.injEq] at eg; subst eg
   refine ⟨e, _, setRow_heap w g cur _ e _ hg, he, ?_⟩
   obtain ⟨t', l', k1, _, k3⟩ := (hnd g rfl).out; rw [hg] at k1
   injection k1 with k1
   injection k1 with k1 _ _
   subst k1; intro u hu; simp only [List.mem_append] at hu
   rcases hu with (hu | hu) | hu
   ·exact k3 u (List.mem_of_mem_take (by simpa using hu))
   ·exact hn u hu
   ·exact k3 u (List.mem_of_mem_drop (by simpa using hu))
  ·have holds : ∀ j u, xs[j]? = some u → w.cell? ((⟨g, 0, none⟩ : Addr).add j) = some u := hown.cells (g := g) rfl
   have h2 := run_append_grow (P := P) w t ty e i z ht hi hz ⟨g, 0, none⟩ n cap xs hown.1 holds a m c news hl hnews (by omega) (by omega) (growslice_fits (by omega) hbytes)
   rw [h2] at hr
   injection hr with e1 e2
   subst e1; subst e2
   intro g' eg; simp only [Value.ownBlock, Option.some.injEq] at eg; subst eg
   have := fresh (xs ++ news) (grownCap w (n + m) cap e - (n + m)) (fun u hu => (List.mem_append.1 hu).elim (hx u) (hn u))
   rw [← List.append_toArray] at this; exact this
variable {Q : Exit → Act → World → Prop} {a : Act} {e : TypeId} {o : Oper} {ops : Array Oper} {rest : List Oper}
theorem Sp (hg : o.guard = none) (s x : Operand) (t : TypeId)
  (hop : o.op = .call { callee := .builtin .append, args := #[s, x], argTypes := #[t, t] }) (ht : Tryz.prog.underlying t = some (.slice e))
  (hi : (Tryz.prog.info? e).map (fun i => (i.zero, i.size, i.bytes)) = some (some z, sz, bt)) (hzs : z.cells.size = sz) (hsz : 0 < sz) (hbt : bt ≤ 1000) (hz0 : ∀ u ∈ z.cells.toList, Am u = false) (he : BoxT e) {base : Nat} (hs : a.eval s = v) [hr : Rn W v e sz n xs base w0]
  (hnx : ∀ u ∈ xs, Am u = false) {ad : Addr} {m c : Nat} {l : List Value} (hx : a.eval x = .slice (some ad) m c) (hb : ∀ j u, l[j]? = some u → W.cell? (ad.add j) = some u) (hl : l.length = m * sz) (h1 : ∀ u ∈ l, u.oneCell' = true) (hnl : ∀ u ∈ l, Am u = false) (hm : 0 < m) (hn : n + m ≤ 1000000)
  (hK : ∀ g c W' [Ap1 W W' base w0] [Apn W W'] [Rn W' (.slice (some ⟨g, 0, none⟩) (n + m) c) e sz (n + m) (xs ++ l) base W'], wpList Tryz.prog ops Q rest (a.put o.dst (.slice (some ⟨g, 0, none⟩) (n + m) c)) W') :
  wpList Tryz.prog ops Q (o :: rest) a W := by
 obtain ⟨i0, hi0⟩ : ∃ i0, Tryz.prog.info? e = some i0 := by
  cases h : Tryz.prog.info? e with
  | none => rw [h] at hi; cases hi
  | some i0 => exact ⟨i0, rfl⟩
 rw [hi0] at hi; simp only [Option.map_some, Option.some.injEq, Prod.mk.injEq] at hi; obtain ⟨hz, hsz', hbt'⟩ := hi
 have hby : (n + m) * bt ≤ 140737488355328 := by
  have : (n + m) * bt ≤ 1000000 * 1000 := Nat.mul_le_mul hn hbt
  omega
 have hmx : n + m ≤ maxLen := by unfold maxLen; omega
 refine wpList_plain hg fun K hKK => ?_
 obtain ⟨v', w', hrun, h2, h3, h4⟩ := run_append_own (P := Tryz.prog) W base t o.type e i0 z sz bt ht hi0 hz hsz' hbt' hzs hsz v n xs hr.rw'.out ad m c l hl hb h1 hmx hby hr.rw'.hb
 have hsoft := J7 (P := Tryz.prog) W t o.type e i0 z ht hi0 hz he (base := base) (by rw [hsz']; exact hr.rw'.out) hr.nd hnx ad m c l (by rw [hsz']; exact hl) hb h1 hnl hz0 hmx (by rw [hbt']; exact hby) hrun
 unfold Oper.wp execOp
 simp only [hop, resolve, invoke, builtin, Sem.run_bind, Sem.run_pure, Result.andThen_ok, List.map_toArray, List.map_cons, List.map_nil, hs, hx, hrun]
 have hne : v' ≠ .slice none 0 0 := fun e => by have := (h4.1 e).2; omega
 rcases h2.2 with ⟨e', _⟩ | ⟨g, cap, cur, e', _⟩
 ·exact absurd e' hne
 ·subst e'
  have i1 : Ap1 W w' base w0 := ⟨⟨_, h3, fun k hk => ⟨(hr.rw'.out.lt k hk).1, hr.rw'.lt k hk⟩⟩⟩
  have i2 : Apn W w' := ⟨⟨_, h3, hr.nd⟩⟩
  have i3 : Rn w' (.slice (some ⟨g, 0, none⟩) (n + m) cap) e sz (n + m) (xs ++ l) base w' := ⟨Rw.mk1 h2 (Nat.le_trans hr.rw'.hb h3.size), hsoft⟩
  exact hKK _ _ (@hK g cap w' i1 i2 i3)
theorem Hd (hg : o.guard = none) (s x : Operand) (t : TypeId)
  (hop : o.op = .call { callee := .builtin .append, args := #[s, x], argTypes := #[t, t] }) (ht : Tryz.prog.underlying t = some (.slice e))
  (hi : (Tryz.prog.info? e).map (fun i => (i.zero, i.size, i.bytes)) = some (some z, sz, bt)) (hzs : z.cells.size = sz) (hsz : 0 < sz) (hbt : bt ≤ 1000) (hz0 : ∀ u ∈ z.cells.toList, Am u = false) (he : BoxT e) {base : Nat} (hs : a.eval s = v) [hr : Rn W v e sz n xs base w0]
  (hnx : ∀ u ∈ xs, Am u = false) {q : Nat} {ety : TypeId} {l : List Value} (hx : a.eval x = .slice (some ⟨q, 0, none⟩) 1 1) [hb : Bx W q ety l] (hl : l.length = sz) (h1 : ∀ u ∈ l, u.oneCell' = true) (hnl : ∀ u ∈ l, Am u = false) (hn : n + 1 ≤ 1000000)
  (hK : ∀ g c W' [Ap1 W W' base w0] [Apn W W'] [Rn W' (.slice (some ⟨g, 0, none⟩) (n + 1) c) e sz (n + 1) (xs ++ l) base W'], wpList Tryz.prog ops Q rest (a.put o.dst (.slice (some ⟨g, 0, none⟩) (n + 1) c)) W') :
  wpList Tryz.prog ops Q (o :: rest) a W :=
 Sp hg s x t hop ht hi hzs hsz hbt hz0 he hs hnx hx (fun j u hu => by
  have hadd : (⟨q, 0, none⟩ : Addr).add j = ⟨q, j, none⟩ := by unfold Addr.add; split <;> simp_all
  rw [hadd, B8]; exact hu) (by omega) h1 hnl (by omega) hn hK
class Sl (W : World) (v : Value) (n : outParam Nat) (xs : outParam (List Value)) (w0 : outParam World) : Prop where
 out : (v = .slice none 0 0 ∧ n = 0) ∨ ∃ g c, v = .slice (some ⟨g, 0, none⟩) n c ∧ n ≤ c ∧ ∀ j u, xs[j]? = some u → W.cell? ⟨g, j, none⟩ = some u
 lt : ∀ g, v.ownBlock = some g → g < w0.heap.size
 ltW : ∀ g, v.ownBlock = some g → g < W.heap.size
class At (W : World) (g : Nat) (xs : outParam (List Value)) (w0 : outParam World) : Prop where
 out : ∀ j u, xs[j]? = some u → W.cell? ⟨g, j, none⟩ = some u
 lt : g < w0.heap.size
 ltW : g < W.heap.size
section
variable {W W2 w0 w1 : World} {v : Value} {n base g : Nat} {xs : List Value}
theorem Gw {j : Nat} (h : W2.heap[g]? = W.heap[g]?) : W2.cell? ⟨g, j, none⟩ = W.cell? ⟨g, j, none⟩ := by unfold World.cell?; simp only [h]
theorem Sl.keep (h : Sl W v n xs w0) (hs : W.heap.size ≤ W2.heap.size) (hb : ∀ g, v.ownBlock = some g → W2.heap[g]? = W.heap[g]?) : Sl W2 v n xs w0 := by
 refine ⟨?_, h.lt, fun g e => Nat.lt_of_lt_of_le (h.ltW g e) hs⟩
 rcases h.out with k | ⟨g, c, rfl, hc, k⟩
 ·exact .inl k
 ·exact .inr ⟨g, c, rfl, hc, fun j u hu => by rw [Gw (hb g rfl)]; exact k j u hu⟩
theorem At.keep (h : At W g xs w0) (hs : W.heap.size ≤ W2.heap.size) (hb : W2.heap[g]? = W.heap[g]?) : At W2 g xs w0 :=
 ⟨fun j u hu => by rw [Gw hb]; exact h.out j u hu, h.lt, Nat.lt_of_lt_of_le h.ltW hs⟩
instance Sl.al {o : Obj} [h : Sl W v n xs w0] : Sl (W.alloc o) v n xs w0 := h.keep (by rw [World.size_alloc]; omega) (fun g e => E0 (h.ltW g e))
instance Sl.dr [h : Sl W v n xs w0] : Sl W.drew v n xs w0 := h.keep (Nat.le_refl _) (fun _ _ => rfl)
instance (priority := low) Sl.kp [k : Kp1 W W2] [h : Sl W v n xs w0] : Sl W2 v n xs w0 := h.keep k.out.size (fun g e => k.out.block _ (h.ltW g e))
instance Sl.st {q i : Nat} {x : Value} [h : Sl W v n xs w0] [l : Ge w0 q] : Sl (W.setCell ⟨q, i, none⟩ x) v n xs w0 := h.keep (by rw [World.size_setCell]; omega)
 (fun g e => by simp only [World.setCell, Array.getElem?_modify]; rw [if_neg (by have := l.out; have := h.lt g e; omega)])
instance At.al {o : Obj} [h : At W g xs w0] : At (W.alloc o) g xs w0 := h.keep (by rw [World.size_alloc]; omega) (E0 h.ltW)
instance At.dr [h : At W g xs w0] : At W.drew g xs w0 := h.keep (Nat.le_refl _) rfl
instance (priority := low) At.kp [k : Kp1 W W2] [h : At W g xs w0] : At W2 g xs w0 := h.keep k.out.size (k.out.block _ h.ltW)
instance At.st {q i : Nat} {x : Value} [h : At W g xs w0] [l : Ge w0 q] : At (W.setCell ⟨q, i, none⟩ x) g xs w0 := h.keep (by rw [World.size_setCell]; omega)
 (by simp only [World.setCell, Array.getElem?_modify]; rw [if_neg (by have := l.out; have := h.lt; omega)])
instance (priority := low) At.ex {L : List Nat} [k : Ex1 W L W2] [h : At W g xs w0] [l : GeL w0 L] : At W2 g xs w0 := h.keep k.out.size
 (k.out.block _ h.ltW (fun hm => by have := l.out _ hm; have := h.lt; omega))
instance (priority := low) At.ap [k : Ap1 W W2 base w1] [h : At W g xs w0] [l : Ge w0 base] : At W2 g xs w0 := h.keep k.size (k.block h.ltW (.inl (Nat.lt_of_lt_of_le h.lt l.out)))
theorem Sl.here (h : Sl W v n xs w0) : Sl W v n xs W := ⟨h.out, h.ltW, h.ltW⟩
theorem Sl.len {a : Option Addr} {n' c : Nat} (h : Sl W (.slice a n' c) n xs w0) : n' = n := by
 rcases h.out with ⟨e, e0⟩ | ⟨g, c', e, _, _⟩
 ·injection e with _ e2 _; omega
 ·injection e with _ e2 _
theorem Sl.form {a : Option Addr} {n' c : Nat} (h : Sl W (.slice a n' c) n xs w0) (h0 : 0 < n) : ∃ g, a = some ⟨g, 0, none⟩ ∧ At W g xs w0 := by
 rcases h.out with ⟨e, e0⟩ | ⟨g, c', e, _, hc⟩
 ·omega
 ·injection e with e1 e2 e3
  subst e1; exact ⟨g, rfl, hc, h.lt g rfl, h.ltW g rfl⟩
theorem Sl.capc {a : Option Addr} {n' c : Nat} (h : Sl W (.slice a n' c) n xs w0) : n ≤ c := by
 rcases h.out with ⟨e, e0⟩ | ⟨g, c', e, hc, _⟩
 ·omega
 ·injection e with _ _ e3; omega
theorem Rw.sl {e : TypeId} {sz : Nat} (h : Rw W v e sz n xs base w0) : Sl W v n xs w0 := by
 refine ⟨?_, h.lt, h.ltW⟩
 rcases h.out.2 with hn | ⟨g, cap, cur, rfl, hb, hgg, rest⟩
 ·exact .inl hn
 ·refine .inr ⟨g, cap, rfl, rest.1, fun j u hu => ?_⟩
  have := h.out.cells (g := g) rfl j u hu
  have hadd : (⟨g, 0, none⟩ : Addr).add j = ⟨g, j, none⟩ := by unfold Addr.add; split <;> simp_all
  rwa [hadd] at this
instance (priority := low) Sl.ofRn {e : TypeId} {sz : Nat} [h : Rn W v e sz n xs base w0] : Sl W v n xs w0 := h.rw'.sl
theorem Rn.at {e : TypeId} {sz c n' : Nat} (h : Rn W (.slice (some ⟨g, 0, none⟩) n' c) e sz n xs base w0) : At W g xs w0 := by
 refine ⟨fun j u hu => ?_, h.rw'.lt g rfl, h.rw'.ltW g rfl⟩
 have := h.rw'.out.cells (g := g) rfl j u hu
 have hadd : (⟨g, 0, none⟩ : Addr).add j = ⟨g, j, none⟩ := by unfold Addr.add; split <;> simp_all
 rwa [hadd] at this
end
variable {c g i j k k' kx ky n sz : Nat} {α : Type}
theorem Qgw {f : α → List Value} (hf : ∀ a, (f a).length = sz) (V : List α) : (V.flatMap f).length = V.length * sz := by
 induction V with
 | nil => simp
 | cons a V ih => rw [List.flatMap_cons, List.length_append, hf, ih, List.length_cons, Nat.add_mul]; omega
theorem F9 {f : α → List Value} (hf : ∀ a, (f a).length = sz) (V : List α) : ∀ (i j : Nat) (h : i < V.length), j < sz → (V.flatMap f)[i * sz + j]? = (f V[i])[j]? := by
 induction V with
 | nil => intro i j h; simp at h
 | cons x V ih =>
  intro i j h hj
  cases i with
  | zero =>
   rw [List.flatMap_cons, List.getElem?_append_left (by rw [hf]; omega)]; simp
  | succ i =>
   rw [List.flatMap_cons, List.getElem?_append_right (by rw [hf, Nat.add_mul]; omega)]
   rw [show (i + 1) * sz + j - (f x).length = i * sz + j by rw [hf, Nat.add_mul]; omega]
   exact ih i j (by simpa using h) hj
theorem Fz {f : α → List Value} (hf : ∀ a, ∀ u ∈ f a, Am u = false) (V : List α) : ∀ u ∈ V.flatMap f, Am u = false := by
 intro u hu; obtain ⟨a, _, h⟩ := List.mem_flatMap.1 hu; exact hf a u h
theorem Fp (f : α → List Value) (V : List α) (a : α) : (V ++ [a]).flatMap f = V.flatMap f ++ f a := by simp
variable {P : Program}
theorem Ms (W : World) (b off : Nat) (ty : TypeId) (vs : List Value) (d : TypeDesc) (hu : P.underlying ty = some d) (hd : (match d with | .struct _ | .array _ _ => true | _ => false) = true)
  (hi : (P.info? ty).map (·.size) = some vs.length) (hc : ∀ j (hj : j < vs.length), W.cell? ⟨b, off + j, none⟩ = some vs[j]) : (loadVar ty ⟨b, off, none⟩).run P W = .ok (.agg vs.toArray) W := by
 have hl : (loadCells ⟨b, off, none⟩ vs.length).run P W = .ok vs.toArray W :=
  run_loadCells_list (P := P) W ⟨b, off, none⟩ vs (fun j v hv => by
   have hadd : (⟨b, off, none⟩ : Addr).add j = ⟨b, off + j, none⟩ := by unfold Addr.add; split <;> simp_all
   rw [hadd]
   have hj : j < vs.length := by
    rcases Nat.lt_or_ge j vs.length with h | h
    ·exact h
    ·rw [List.getElem?_eq_none h] at hv; cases hv
   rw [hc j hj, ← hv, List.getElem?_eq_getElem hj])
 cases hq : P.info? ty with
 | none => simp [hq] at hi
 | some i =>
  have hs : i.size = vs.length := by simpa [hq] using hi
  have hagg : (isAgg ty).run P W = .ok true W := by
   unfold isAgg; rw [Sem.run_bind, run_underlying hu W]
   cases d <;> simp_all
  simp [loadVar, hagg, sizeOf, typeInfo, hq, hs, hl]
structure FV where
 nx : Int
 dx : Int
 px : Option Addr
 ny : Int
 dy : Int
 py : Option Addr
structure AV where
 gx : Bool
 ax : Option Addr
 lx : Nat
 cx : Nat
 aax : Option Addr
 llx : Nat
 ccx : Nat
 gy : Bool
 ay : Option Addr
 ly : Nat
 cy : Nat
 aay : Option Addr
 lly : Nat
 ccy : Nat
def FV.l (v : FV) : List Value := [.int .i64 v.nx, .int .i64 v.dx, .pointer v.px, .int .i64 v.ny, .int .i64 v.dy, .pointer v.py]
def AV.l (v : AV) : List Value := [.bool v.gx, .slice v.ax v.lx v.cx, .slice v.aax v.llx v.ccx, .bool v.gy, .slice v.ay v.ly v.cy, .slice v.aay v.lly v.ccy]
theorem FV.len (v : FV) : v.l.length = 6 := rfl
theorem AV.len (v : AV) : v.l.length = 6 := rfl
theorem FV.one (v : FV) : ∀ u ∈ v.l, u.oneCell' = true := by
 intro u hu; simp only [FV.l, List.mem_cons, List.not_mem_nil, or_false] at hu; rcases hu with rfl | rfl | rfl | rfl | rfl | rfl <;> rfl
theorem AV.one (v : AV) : ∀ u ∈ v.l, u.oneCell' = true := by
 intro u hu; simp only [AV.l, List.mem_cons, List.not_mem_nil, or_false] at hu; rcases hu with rfl | rfl | rfl | rfl | rfl | rfl <;> rfl
theorem FV.nd (v : FV) : ∀ u ∈ v.l, Am u = false := by
 intro u hu; simp only [FV.l, List.mem_cons, List.not_mem_nil, or_false] at hu; rcases hu with rfl | rfl | rfl | rfl | rfl | rfl <;> rfl
theorem AV.nd (v : AV) : ∀ u ∈ v.l, Am u = false := by
 intro u hu; simp only [AV.l, List.mem_cons, List.not_mem_nil, or_false] at hu; rcases hu with rfl | rfl | rfl | rfl | rfl | rfl <;> rfl
def Ax (V : List FV) : List Value := V.flatMap FV.l
def Af (V : List AV) : List Value := V.flatMap AV.l
theorem Pb (V : List FV) (a : FV) : Ax (V ++ [a]) = Ax V ++ a.l := Fp _ _ _
theorem Rq (V : List AV) (a : AV) : Af (V ++ [a]) = Af V ++ a.l := Fp _ _ _
theorem Sg (V : List FV) : ∀ u ∈ Ax V, Am u = false := Fz FV.nd V
theorem F4 (V : List AV) : ∀ u ∈ Af V, Am u = false := Fz AV.nd V
def fv (V : List FV) (i : Nat) : FV := V.getD i ⟨0, 0, none, 0, 0, none⟩
def av (V : List AV) (i : Nat) : AV := V.getD i ⟨false, none, 0, 0, none, 0, 0, false, none, 0, 0, none, 0, 0⟩
def pg (L : List (Rat × Rat)) (i : Nat) : Rat × Rat := L.getD i (0, 0)
theorem C7 {V : List α} {d : α} (h : i < V.length) : V.getD i d = V[i] := by rw [List.getD_eq_getElem?_getD, List.getElem?_eq_getElem h]; rfl
theorem G9 {V : List FV} (h : i < V.length) : fv V i = V[i] := C7 h
variable {V : List AV}
theorem Dy (h : i < V.length) : av V i = V[i] := C7 h
variable {L L' : List (Rat × Rat)}
theorem Aw (h : i < L.length) : pg L i = L[i] := C7 h
variable {W W2 w w' w0 : World}
theorem Il {V : List FV} (h : At W g (Ax V) w0) (hk : k < V.length) (hj : j < 6) : W.cell? ⟨g, k * 6 + j, none⟩ = some ((fv V k).l[j]'hj) := by
 rw [G9 hk]
 exact h.out _ _ (by rw [Ax, F9 FV.len V k j hk hj]; exact List.getElem?_eq_getElem (l := V[k].l) hj)
theorem Ec (h : At W g (Af V) w0) (hk : k < V.length) (hj : j < 6) : W.cell? ⟨g, k * 6 + j, none⟩ = some ((av V k).l[j]'hj) := by
 rw [Dy hk]
 exact h.out _ _ (by rw [Af, F9 AV.len V k j hk hj]; exact List.getElem?_eq_getElem (l := V[k].l) hj)
@[go_sem] theorem Qnb {V : List FV} [h : At W g (Ax V) w0] (hk : k < V.length) : W.cell? ⟨g, k * 6, none⟩ = some (.int .i64 (fv V k).nx) := Il h hk (j := 0) (by decide)
@[go_sem] theorem Qmz {V : List FV} [h : At W g (Ax V) w0] (hk : k < V.length) : W.cell? ⟨g, k * 6 + 1, none⟩ = some (.int .i64 (fv V k).dx) := Il h hk (j := 1) (by decide)
@[go_sem] theorem Qni {V : List FV} [h : At W g (Ax V) w0] (hk : k < V.length) : W.cell? ⟨g, k * 6 + 2, none⟩ = some (.pointer (fv V k).px) := Il h hk (j := 2) (by decide)
@[go_sem] theorem Qn5 {V : List FV} [h : At W g (Ax V) w0] (hk : k < V.length) : W.cell? ⟨g, k * 6 + 3, none⟩ = some (.int .i64 (fv V k).ny) := Il h hk (j := 3) (by decide)
@[go_sem] theorem Qnm {V : List FV} [h : At W g (Ax V) w0] (hk : k < V.length) : W.cell? ⟨g, k * 6 + 4, none⟩ = some (.int .i64 (fv V k).dy) := Il h hk (j := 4) (by decide)
@[go_sem] theorem Qnf {V : List FV} [h : At W g (Ax V) w0] (hk : k < V.length) : W.cell? ⟨g, k * 6 + 5, none⟩ = some (.pointer (fv V k).py) := Il h hk (j := 5) (by decide)
@[go_sem] theorem Qnt [h : At W g (Af V) w0] (hk : k < V.length) : W.cell? ⟨g, k * 6, none⟩ = some (.bool (av V k).gx) := Ec h hk (j := 0) (by decide)
@[go_sem] theorem Qm2 [h : At W g (Af V) w0] (hk : k < V.length) : W.cell? ⟨g, k * 6 + 1, none⟩ = some (.slice (av V k).ax (av V k).lx (av V k).cx) := Ec h hk (j := 1) (by decide)
@[go_sem] theorem Qm3 [h : At W g (Af V) w0] (hk : k < V.length) : W.cell? ⟨g, k * 6 + 2, none⟩ = some (.slice (av V k).aax (av V k).llx (av V k).ccx) := Ec h hk (j := 2) (by decide)
@[go_sem] theorem Qm0 [h : At W g (Af V) w0] (hk : k < V.length) : W.cell? ⟨g, k * 6 + 3, none⟩ = some (.bool (av V k).gy) := Ec h hk (j := 3) (by decide)
@[go_sem] theorem Qnq [h : At W g (Af V) w0] (hk : k < V.length) : W.cell? ⟨g, k * 6 + 4, none⟩ = some (.slice (av V k).ay (av V k).ly (av V k).cy) := Ec h hk (j := 4) (by decide)
@[go_sem] theorem Qm1 [h : At W g (Af V) w0] (hk : k < V.length) : W.cell? ⟨g, k * 6 + 5, none⟩ = some (.slice (av V k).aay (av V k).lly (av V k).ccy) := Ec h hk (j := 5) (by decide)
class PsF (W : World) (V : List FV) (L : outParam (List (Rat × Rat))) (k : outParam Nat) : Prop where
 len : V.length = L.length
 x : ∀ i, i < V.length → CF W (.agg #[.int .i64 (fv V i).nx, .int .i64 (fv V i).dx, .pointer (fv V i).px]) (pg L i).1 k
 y : ∀ i, i < V.length → CF W (.agg #[.int .i64 (fv V i).ny, .int .i64 (fv V i).dy, .pointer (fv V i).py]) (pg L i).2 k
variable {o : Obj}
instance PsF.al {V : List FV} [h : PsF W V L k] : PsF (W.alloc o) V L k := ⟨h.len, fun i hi => by have := h.x i hi; exact ii, fun i hi => by have := h.y i hi; exact ii⟩
instance PsF.dr {V : List FV} [h : PsF W V L k] : PsF W.drew V L k := ⟨h.len, fun i hi => by have := h.x i hi; exact ii, fun i hi => by have := h.y i hi; exact ii⟩
instance (priority := low) PsF.kp {V : List FV} [b : Kp1 W W2] [h : PsF W V L k] : PsF W2 V L k := ⟨h.len, fun i hi => by have := h.x i hi; exact ii, fun i hi => by have := h.y i hi; exact ii⟩
instance (priority := low) PsF.apn {V : List FV} [b : Apn W W2] [h : PsF W V L k] : PsF W2 V L k := ⟨h.len, fun i hi => by have := h.x i hi; exact ii, fun i hi => by have := h.y i hi; exact ii⟩
instance PsF.st {V : List FV} {qb ib : Nat} {xv : Value} [b : SoftB W qb] [h : PsF W V L k] : PsF (W.setCell ⟨qb, ib, none⟩ xv) V L k := ⟨h.len, fun i hi => by have := h.x i hi; exact ii, fun i hi => by have := h.y i hi; exact ii⟩
instance PsF.ix {V : List FV} [h : PsF W V L k] [l : LtN i V.length] : CF W (.agg #[.int .i64 (fv V i).nx, .int .i64 (fv V i).dx, .pointer (fv V i).px]) (pg L i).1 k := h.x i l.out
instance PsF.iy {V : List FV} [h : PsF W V L k] [l : LtN i V.length] : CF W (.agg #[.int .i64 (fv V i).ny, .int .i64 (fv V i).dy, .pointer (fv V i).py]) (pg L i).2 k := h.y i l.out
theorem PsF.nil : PsF W [] [] k := ⟨rfl, fun i hi => by simp at hi, fun i hi => by simp at hi⟩
theorem PsF.mono {V : List FV} (h : PsF W V L k) (b : k ≤ k') : PsF W V L k' := ⟨h.len, fun i hi => (h.x i hi).cast rfl b, fun i hi => (h.y i hi).cast rfl b⟩
theorem PsF.snoc {V : List FV} {a : FV} {x y : Rat} (h : PsF W V L k) (hx : CF W (.agg #[.int .i64 (a).nx, .int .i64 (a).dx, .pointer (a).px]) x kx) (hy : CF W (.agg #[.int .i64 (a).ny, .int .i64 (a).dy, .pointer (a).py]) y ky) (bx : kx ≤ k) (b_y : ky ≤ k) : PsF W (V ++ [a]) (L ++ [(x, y)]) k := by
 refine ⟨by simp [h.len], fun i hi => ?_, fun i hi => ?_⟩
 all_goals
  rcases Nat.lt_or_ge i V.length with hlt | hge
  ·have e1 : fv (V ++ [a]) i = fv V i := by rw [G9 hi, G9 hlt, List.getElem_append_left hlt]
   have e2 : pg (L ++ [(x, y)]) i = pg L i := by rw [Aw (by rw [List.length_append, ← h.len]; omega), Aw (by rw [← h.len]; exact hlt), List.getElem_append_left (by rw [← h.len]; exact hlt)]
   rw [e1, e2]
   first
    | exact h.x i hlt
    | exact h.y i hlt
  ·have hi' : i = V.length := by simp at hi; omega
   subst hi'
   have e1 : fv (V ++ [a]) V.length = a := by rw [G9 hi]; simp
   have e2 : pg (L ++ [(x, y)]) V.length = (x, y) := by rw [h.len, Aw (by simp)]; simp
   rw [e1, e2]
   first
    | exact hx.cast rfl bx
    | exact hy.cast rfl b_y
theorem PsF.add {V : List FV} {nx dx ny dy : Int} {px py : Option Addr} {x y : Rat} [h : PsF W V L k] [hx : CF W (.agg #[.int .i64 nx, .int .i64 dx, .pointer px]) x kx] [hy : CF W (.agg #[.int .i64 ny, .int .i64 dy, .pointer py]) y ky] (bx : kx ≤ k) (b_y : ky ≤ k) : PsF W (V ++ [⟨nx, dx, px, ny, dy, py⟩]) (L ++ [(x, y)]) k := h.snoc hx hy bx b_y
class PsA (W : World) (V : List AV) (L : outParam (List (Rat × Rat))) (k : outParam Nat) : Prop where
 len : V.length = L.length
 x : ∀ i, i < V.length → CA W (.agg #[.bool (av V i).gx, .slice (av V i).ax (av V i).lx (av V i).cx, .slice (av V i).aax (av V i).llx (av V i).ccx]) (pg L i).1 k
 y : ∀ i, i < V.length → CA W (.agg #[.bool (av V i).gy, .slice (av V i).ay (av V i).ly (av V i).cy, .slice (av V i).aay (av V i).lly (av V i).ccy]) (pg L i).2 k
instance PsA.al [h : PsA W V L k] : PsA (W.alloc o) V L k := ⟨h.len, fun i hi => by have := h.x i hi; exact ii, fun i hi => by have := h.y i hi; exact ii⟩
instance PsA.dr [h : PsA W V L k] : PsA W.drew V L k := ⟨h.len, fun i hi => by have := h.x i hi; exact ii, fun i hi => by have := h.y i hi; exact ii⟩
instance (priority := low) PsA.kp [b : Kp1 W W2] [h : PsA W V L k] : PsA W2 V L k := ⟨h.len, fun i hi => by have := h.x i hi; exact ii, fun i hi => by have := h.y i hi; exact ii⟩
instance (priority := low) PsA.tp [b : Tp1 W W2 g] [h : PsA W V L k] : PsA W2 V L k := ⟨h.len, fun i hi => by have := h.x i hi; exact ii, fun i hi => by have := h.y i hi; exact ii⟩
instance (priority := low) PsA.apn [b : Apn W W2] [h : PsA W V L k] : PsA W2 V L k := ⟨h.len, fun i hi => by have := h.x i hi; exact ii, fun i hi => by have := h.y i hi; exact ii⟩
instance PsA.ix [h : PsA W V L k] [l : LtN i V.length] : CA W (.agg #[.bool (av V i).gx, .slice (av V i).ax (av V i).lx (av V i).cx, .slice (av V i).aax (av V i).llx (av V i).ccx]) (pg L i).1 k := h.x i l.out
instance PsA.iy [h : PsA W V L k] [l : LtN i V.length] : CA W (.agg #[.bool (av V i).gy, .slice (av V i).ay (av V i).ly (av V i).cy, .slice (av V i).aay (av V i).lly (av V i).ccy]) (pg L i).2 k := h.y i l.out
theorem PsA.nil : PsA W [] [] k := ⟨rfl, fun i hi => by simp at hi, fun i hi => by simp at hi⟩
theorem PsA.mono (h : PsA W V L k) (b : k ≤ k') : PsA W V L k' := ⟨h.len, fun i hi => (h.x i hi).cast rfl b, fun i hi => (h.y i hi).cast rfl b⟩
theorem PsA.snoc {a : AV} {x y : Rat} (h : PsA W V L k) (hx : CA W (.agg #[.bool (a).gx, .slice (a).ax (a).lx (a).cx, .slice (a).aax (a).llx (a).ccx]) x kx) (hy : CA W (.agg #[.bool (a).gy, .slice (a).ay (a).ly (a).cy, .slice (a).aay (a).lly (a).ccy]) y ky) (bx : kx ≤ k) (b_y : ky ≤ k) : PsA W (V ++ [a]) (L ++ [(x, y)]) k := by
 refine ⟨by simp [h.len], fun i hi => ?_, fun i hi => ?_⟩
 all_goals
  rcases Nat.lt_or_ge i V.length with hlt | hge
  ·have e1 : av (V ++ [a]) i = av V i := by rw [Dy hi, Dy hlt, List.getElem_append_left hlt]
   have e2 : pg (L ++ [(x, y)]) i = pg L i := by rw [Aw (by rw [List.length_append, ← h.len]; omega), Aw (by rw [← h.len]; exact hlt), List.getElem_append_left (by rw [← h.len]; exact hlt)]
   rw [e1, e2]
   first
    | exact h.x i hlt
    | exact h.y i hlt
  ·have hi' : i = V.length := by simp at hi; omega
   subst hi'
   have e1 : av (V ++ [a]) V.length = a := by rw [Dy hi]; simp
   have e2 : pg (L ++ [(x, y)]) V.length = (x, y) := by rw [h.len, Aw (by simp)]; simp
   rw [e1, e2]
   first
    | exact hx.cast rfl bx
    | exact hy.cast rfl b_y
theorem PsA.add {gx gy : Bool} {ax aax ay aay : Option Addr} {lx cx llx ccx ly cy lly ccy : Nat} {x y : Rat} [h : PsA W V L k] [hx : CA W (.agg #[.bool gx, .slice ax lx cx, .slice aax llx ccx]) x kx] [hy : CA W (.agg #[.bool gy, .slice ay ly cy, .slice aay lly ccy]) y ky] (bx : kx ≤ k) (b_y : ky ≤ k) : PsA W (V ++ [⟨gx, ax, lx, cx, aax, llx, ccx, gy, ay, ly, cy, aay, lly, ccy⟩]) (L ++ [(x, y)]) k := h.snoc hx hy bx b_y
class PsQ (W : World) (V : List AV) (L : outParam (List (Rat × Rat))) (k : outParam Nat) : Prop where
 len : V.length = L.length
 x : ∀ i, i < V.length → CQ W (.agg #[.bool (av V i).gx, .slice (av V i).ax (av V i).lx (av V i).cx, .slice (av V i).aax (av V i).llx (av V i).ccx]) (pg L i).1 k
 y : ∀ i, i < V.length → CQ W (.agg #[.bool (av V i).gy, .slice (av V i).ay (av V i).ly (av V i).cy, .slice (av V i).aay (av V i).lly (av V i).ccy]) (pg L i).2 k
instance PsQ.al [h : PsQ W V L k] : PsQ (W.alloc o) V L k := ⟨h.len, fun i hi => by have := h.x i hi; exact ii, fun i hi => by have := h.y i hi; exact ii⟩
instance PsQ.dr [h : PsQ W V L k] : PsQ W.drew V L k := ⟨h.len, fun i hi => by have := h.x i hi; exact ii, fun i hi => by have := h.y i hi; exact ii⟩
instance (priority := low) PsQ.kp [b : Kp1 W W2] [h : PsQ W V L k] : PsQ W2 V L k := ⟨h.len, fun i hi => by have := h.x i hi; exact ii, fun i hi => by have := h.y i hi; exact ii⟩
instance (priority := low) PsQ.tp [b : Tp1 W W2 g] [h : PsQ W V L k] : PsQ W2 V L k := ⟨h.len, fun i hi => by have := h.x i hi; exact ii, fun i hi => by have := h.y i hi; exact ii⟩
instance (priority := low) PsQ.apn [b : Apn W W2] [h : PsQ W V L k] : PsQ W2 V L k := ⟨h.len, fun i hi => by have := h.x i hi; exact ii, fun i hi => by have := h.y i hi; exact ii⟩
instance PsQ.ix [h : PsQ W V L k] [l : LtN i V.length] : CQ W (.agg #[.bool (av V i).gx, .slice (av V i).ax (av V i).lx (av V i).cx, .slice (av V i).aax (av V i).llx (av V i).ccx]) (pg L i).1 k := h.x i l.out
instance PsQ.iy [h : PsQ W V L k] [l : LtN i V.length] : CQ W (.agg #[.bool (av V i).gy, .slice (av V i).ay (av V i).ly (av V i).cy, .slice (av V i).aay (av V i).lly (av V i).ccy]) (pg L i).2 k := h.y i l.out
theorem PsQ.nil : PsQ W [] [] k := ⟨rfl, fun i hi => by simp at hi, fun i hi => by simp at hi⟩
theorem PsQ.snoc {a : AV} {x y : Rat} (h : PsQ W V L k) (hx : CQ W (.agg #[.bool (a).gx, .slice (a).ax (a).lx (a).cx, .slice (a).aax (a).llx (a).ccx]) x kx) (hy : CQ W (.agg #[.bool (a).gy, .slice (a).ay (a).ly (a).cy, .slice (a).aay (a).lly (a).ccy]) y ky) (bx : kx ≤ k) (b_y : ky ≤ k) : PsQ W (V ++ [a]) (L ++ [(x, y)]) k := by
 refine ⟨by simp [h.len], fun i hi => ?_, fun i hi => ?_⟩
 all_goals
  rcases Nat.lt_or_ge i V.length with hlt | hge
  ·have e1 : av (V ++ [a]) i = av V i := by rw [Dy hi, Dy hlt, List.getElem_append_left hlt]
   have e2 : pg (L ++ [(x, y)]) i = pg L i := by rw [Aw (by rw [List.length_append, ← h.len]; omega), Aw (by rw [← h.len]; exact hlt), List.getElem_append_left (by rw [← h.len]; exact hlt)]
   rw [e1, e2]
   first
    | exact h.x i hlt
    | exact h.y i hlt
  ·have hi' : i = V.length := by simp at hi; omega
   subst hi'
   have e1 : av (V ++ [a]) V.length = a := by rw [Dy hi]; simp
   have e2 : pg (L ++ [(x, y)]) V.length = (x, y) := by rw [h.len, Aw (by simp)]; simp
   rw [e1, e2]
   first
    | exact hx.cast rfl bx
    | exact hy.cast rfl b_y
theorem PsQ.add {gx gy : Bool} {ax aax ay aay : Option Addr} {lx cx llx ccx ly cy lly ccy : Nat} {x y : Rat} [h : PsQ W V L k] [hx : CQ W (.agg #[.bool gx, .slice ax lx cx, .slice aax llx ccx]) x kx] [hy : CQ W (.agg #[.bool gy, .slice ay ly cy, .slice aay lly ccy]) y ky] (bx : kx ≤ k) (b_y : ky ≤ k) : PsQ W (V ++ [⟨gx, ax, lx, cx, aax, llx, ccx, gy, ay, ly, cy, aay, lly, ccy⟩]) (L ++ [(x, y)]) k := h.snoc hx hy bx b_y
class PsW (W : World) (V : List AV) (L : outParam (List (Rat × Rat))) (k : outParam Nat) : Prop where
 len : V.length = L.length
 x : ∀ i, i < V.length → CW W (.agg #[.bool (av V i).gx, .slice (av V i).ax (av V i).lx (av V i).cx, .slice (av V i).aax (av V i).llx (av V i).ccx]) (pg L i).1 k
 y : ∀ i, i < V.length → CW W (.agg #[.bool (av V i).gy, .slice (av V i).ay (av V i).ly (av V i).cy, .slice (av V i).aay (av V i).lly (av V i).ccy]) (pg L i).2 k
instance PsW.ix [h : PsW W V L k] [l : LtN i V.length] : CW W (.agg #[.bool (av V i).gx, .slice (av V i).ax (av V i).lx (av V i).cx, .slice (av V i).aax (av V i).llx (av V i).ccx]) (pg L i).1 k := h.x i l.out
instance PsW.iy [h : PsW W V L k] [l : LtN i V.length] : CW W (.agg #[.bool (av V i).gy, .slice (av V i).ay (av V i).ly (av V i).cy, .slice (av V i).aay (av V i).lly (av V i).ccy]) (pg L i).2 k := h.y i l.out
def Qj (w : World) (L : List (Rat × Rat)) (k : Nat) (e : Ending) (w' : World) : Prop := ∃ (a : Option Addr) (c : Nat) (V : List FV), e = .returned (.tuple #[.slice a V.length c, .nilIface]) ∧ Sl w' (.slice a V.length c) V.length (Ax V) w' ∧ PsF w' V L k ∧ Below w.heap.size w w'
variable {K : Ending → World → Prop} {args : Array Value} {f : FuncId}
theorem Xh (h : Calls P f args w (Qj w L k))
  (hK : ∀ w' [Kp1 w w'] (a : Option Addr) (c : Nat) (V : List FV) [Sl w' (.slice a V.length c) V.length (Ax V) w'] [PsF w' V L k], K (.returned (.tuple #[.slice a V.length c, .nilIface])) w') : Calls P f args w K := by
 refine h.mono ?_
 rintro e w' ⟨a, c, V, rfl, hs, hv, hb⟩
 exact @hK w' ⟨hb⟩ a c V hs hv
variable {a : Option Addr}
theorem Qj.fin {V : List FV} [b : Kp w w'] [hs : Sl w' (.slice a n c) V.length (Ax V) w0] [hv : PsF w' V L k] (e : L = L') (m : k ≤ k') : Qj w L' k' (.returned (.tuple #[.slice a n c, .nilIface])) w' := by
 obtain rfl := hs.len; subst e; exact ⟨a, c, V, rfl, hs.here, hv.mono m, b.out⟩
def Kl (w : World) (L : List (Rat × Rat)) (k : Nat) (e : Ending) (w' : World) : Prop := ∃ (a : Option Addr) (c : Nat) (V : List AV), e = .returned (.slice a V.length c) ∧ Sl w' (.slice a V.length c) V.length (Af V) w' ∧ PsA w' V L k ∧ Below w.heap.size w w'
theorem Nz (h : Calls P f args w (Kl w L k))
  (hK : ∀ w' [Kp1 w w'] (a : Option Addr) (c : Nat) (V : List AV) [Sl w' (.slice a V.length c) V.length (Af V) w'] [PsA w' V L k], K (.returned (.slice a V.length c)) w') : Calls P f args w K := by
 refine h.mono ?_
 rintro e w' ⟨a, c, V, rfl, hs, hv, hb⟩
 exact @hK w' ⟨hb⟩ a c V hs hv
theorem Kl.fin [b : Kp w w'] [hs : Sl w' (.slice a n c) V.length (Af V) w0] [hv : PsA w' V L k] (e : L = L') (m : k ≤ k') : Kl w L' k' (.returned (.slice a n c)) w' := by
 obtain rfl := hs.len; subst e; exact ⟨a, c, V, rfl, hs.here, hv.mono m, b.out⟩
def Q8 (w : World) (L : List (Rat × Rat)) (k : Nat) (e : Ending) (w' : World) : Prop := ∃ (a : Option Addr) (c : Nat) (V : List AV), e = .returned (.tuple #[.slice a V.length c, .nilIface]) ∧ Sl w' (.slice a V.length c) V.length (Af V) w' ∧ PsA w' V L k ∧ Below w.heap.size w w'
theorem Qgb (h : Calls P f args w (Q8 w L k))
  (hK : ∀ w' [Kp1 w w'] (a : Option Addr) (c : Nat) (V : List AV) [Sl w' (.slice a V.length c) V.length (Af V) w'] [PsA w' V L k], K (.returned (.tuple #[.slice a V.length c, .nilIface])) w') : Calls P f args w K := by
 refine h.mono ?_
 rintro e w' ⟨a, c, V, rfl, hs, hv, hb⟩
 exact @hK w' ⟨hb⟩ a c V hs hv
theorem Q8.fin [b : Kp w w'] [hs : Sl w' (.slice a n c) V.length (Af V) w0] [hv : PsA w' V L k] (e : L = L') (m : k ≤ k') : Q8 w L' k' (.returned (.tuple #[.slice a n c, .nilIface])) w' := by
 obtain rfl := hs.len; subst e; exact ⟨a, c, V, rfl, hs.here, hv.mono m, b.out⟩
theorem PsW.of (h : PsA W V L k) : PsW W V L k := ⟨h.len, fun i hi => by have := h.x i hi; exact ii, fun i hi => by have := h.y i hi; exact ii⟩
instance (priority := low) PsW.ofA [h : PsA W V L k] : PsW W V L k := PsW.of h
theorem Rz : (Tryz.prog.info? 98).map (fun i => (i.zero, i.size, i.bytes)) = some (some (.agg #[.int .i64 0, .int .i64 0, .pointer none, .int .i64 0, .int .i64 0, .pointer none]), 6, 48) := by kernel_rfl
theorem Zo : (Tryz.prog.info? 70).map (fun i => (i.zero, i.size, i.bytes)) = some (some (.agg #[.bool false, .slice none 0 0, .slice none 0 0, .bool false, .slice none 0 0, .slice none 0 0]), 6, 112) := by kernel_rfl
theorem Fe : (Tryz.prog.info? 40).map (fun i => (i.zero, i.size, i.bytes)) = some (some (.agg #[.bool false, .slice none 0 0, .slice none 0 0, .bool false, .slice none 0 0, .slice none 0 0]), 6, 112) := by kernel_rfl
end
section
set_option maxHeartbeats 4000000
structure FG where
 a : Int
 b : Int
 c : Int
 lo : Rat
 hi : Rat
def fg (L : List FG) (i : Nat) : FG := L.getD i ⟨0, 0, 0, 0, 0⟩
variable {L : List FG} {i k k' ku kv kx ky kz : Nat}
theorem Hl (h : i < L.length) : fg L i = L[i] := C7 h
structure GV where
 nx : Int
 dx : Int
 px : Option Addr
 ny : Int
 dy : Int
 py : Option Addr
 nz : Int
 dz : Int
 pz : Option Addr
 nu : Int
 du : Int
 pu : Option Addr
 nv : Int
 dv : Int
 pv : Option Addr
def GV.l (v : GV) : List Value := [.int .i64 v.nx, .int .i64 v.dx, .pointer v.px, .int .i64 v.ny, .int .i64 v.dy, .pointer v.py, .int .i64 v.nz, .int .i64 v.dz, .pointer v.pz, .int .i64 v.nu, .int .i64 v.du, .pointer v.pu, .int .i64 v.nv, .int .i64 v.dv, .pointer v.pv, .bool false, .bool false]
theorem GV.one (v : GV) : ∀ u ∈ v.l, u.oneCell' = true := by
 intro u hu; simp only [GV.l, List.mem_cons, List.not_mem_nil, or_false] at hu; rcases hu with rfl | rfl | rfl | rfl | rfl | rfl | rfl | rfl | rfl | rfl | rfl | rfl | rfl | rfl | rfl | rfl | rfl <;> rfl
theorem GV.nd (v : GV) : ∀ u ∈ v.l, Am u = false := by
 intro u hu; simp only [GV.l, List.mem_cons, List.not_mem_nil, or_false] at hu; rcases hu with rfl | rfl | rfl | rfl | rfl | rfl | rfl | rfl | rfl | rfl | rfl | rfl | rfl | rfl | rfl | rfl | rfl <;> rfl
def F0 (V : List GV) : List Value := V.flatMap GV.l
theorem Qbd (V : List GV) (a : GV) : F0 (V ++ [a]) = F0 V ++ a.l := Fp _ _ _
theorem Qbj (V : List GV) : ∀ u ∈ F0 V, Am u = false := Fz GV.nd V
def gV (V : List GV) (i : Nat) : GV := V.getD i ⟨0, 0, none, 0, 0, none, 0, 0, none, 0, 0, none, 0, 0, none⟩
variable {V : List GV}
theorem K7 (h : i < V.length) : gV V i = V[i] := C7 h
class FsG (W : World) (V : List GV) (L : outParam (List FG)) (k : outParam Nat) : Prop where
 len : V.length = L.length
 x : ∀ i, i < V.length → CF W (.agg #[.int .i64 (gV V i).nx, .int .i64 (gV V i).dx, .pointer (gV V i).px]) (((fg L i).a : Rat)) k
 y : ∀ i, i < V.length → CF W (.agg #[.int .i64 (gV V i).ny, .int .i64 (gV V i).dy, .pointer (gV V i).py]) (((fg L i).b : Rat)) k
 z : ∀ i, i < V.length → CF W (.agg #[.int .i64 (gV V i).nz, .int .i64 (gV V i).dz, .pointer (gV V i).pz]) (((fg L i).c : Rat)) k
 u : ∀ i, i < V.length → CF W (.agg #[.int .i64 (gV V i).nu, .int .i64 (gV V i).du, .pointer (gV V i).pu]) ((fg L i).lo) k
 v : ∀ i, i < V.length → CF W (.agg #[.int .i64 (gV V i).nv, .int .i64 (gV V i).dv, .pointer (gV V i).pv]) ((fg L i).hi) k
variable {W W2 : World}
instance FsG.al {o : Obj} [h : FsG W V L k] : FsG (W.alloc o) V L k := ⟨h.len, fun i hi => by have := h.x i hi; exact ii, fun i hi => by have := h.y i hi; exact ii, fun i hi => by have := h.z i hi; exact ii, fun i hi => by have := h.u i hi; exact ii, fun i hi => by have := h.v i hi; exact ii⟩
instance (priority := low) FsG.kp [b : Kp1 W W2] [h : FsG W V L k] : FsG W2 V L k := ⟨h.len, fun i hi => by have := h.x i hi; exact ii, fun i hi => by have := h.y i hi; exact ii, fun i hi => by have := h.z i hi; exact ii, fun i hi => by have := h.u i hi; exact ii, fun i hi => by have := h.v i hi; exact ii⟩
instance (priority := low) FsG.apn [b : Apn W W2] [h : FsG W V L k] : FsG W2 V L k := ⟨h.len, fun i hi => by have := h.x i hi; exact ii, fun i hi => by have := h.y i hi; exact ii, fun i hi => by have := h.z i hi; exact ii, fun i hi => by have := h.u i hi; exact ii, fun i hi => by have := h.v i hi; exact ii⟩
instance FsG.st {qb ib : Nat} {xv : Value} [b : SoftB W qb] [h : FsG W V L k] : FsG (W.setCell ⟨qb, ib, none⟩ xv) V L k := ⟨h.len, fun i hi => by have := h.x i hi; exact ii, fun i hi => by have := h.y i hi; exact ii, fun i hi => by have := h.z i hi; exact ii, fun i hi => by have := h.u i hi; exact ii, fun i hi => by have := h.v i hi; exact ii⟩
theorem FsG.nil : FsG W [] [] k := ⟨rfl, fun i hi => by simp at hi, fun i hi => by simp at hi, fun i hi => by simp at hi, fun i hi => by simp at hi, fun i hi => by simp at hi⟩
theorem FsG.mono (h : FsG W V L k) (b : k ≤ k') : FsG W V L k' := ⟨h.len, fun i hi => (h.x i hi).cast rfl b, fun i hi => (h.y i hi).cast rfl b, fun i hi => (h.z i hi).cast rfl b, fun i hi => (h.u i hi).cast rfl b, fun i hi => (h.v i hi).cast rfl b⟩
theorem FsG.snoc {e : GV} {a b c : Int} {lo hiq : Rat} (h : FsG W V L k) (hx : CF W (.agg #[.int .i64 (e).nx, .int .i64 (e).dx, .pointer (e).px]) (a : Rat) kx) (hy : CF W (.agg #[.int .i64 (e).ny, .int .i64 (e).dy, .pointer (e).py]) (b : Rat) ky) (hz : CF W (.agg #[.int .i64 (e).nz, .int .i64 (e).dz, .pointer (e).pz]) (c : Rat) kz) (hu : CF W (.agg #[.int .i64 (e).nu, .int .i64 (e).du, .pointer (e).pu]) lo ku) (hv : CF W (.agg #[.int .i64 (e).nv, .int .i64 (e).dv, .pointer (e).pv]) hiq kv) (bx : kx ≤ k) (b_y : ky ≤ k) (bz : kz ≤ k) (bu : ku ≤ k) (bv : kv ≤ k) : FsG W (V ++ [e]) (L ++ [⟨a, b, c, lo, hiq⟩]) k := by
 refine ⟨by simp [h.len], fun i hi => ?_, fun i hi => ?_, fun i hi => ?_, fun i hi => ?_, fun i hi => ?_⟩
 all_goals
  rcases Nat.lt_or_ge i V.length with hlt | hge
  ·have e1 : gV (V ++ [e]) i = gV V i := by rw [K7 hi, K7 hlt, List.getElem_append_left hlt]
   have e2 : fg (L ++ [⟨a, b, c, lo, hiq⟩]) i = fg L i := by rw [Hl (by rw [List.length_append, ← h.len]; omega), Hl (by rw [← h.len]; exact hlt), List.getElem_append_left (by rw [← h.len]; exact hlt)]
   rw [e1, e2]
   first
    | exact h.x i hlt
    | exact h.y i hlt
    | exact h.z i hlt
    | exact h.u i hlt
    | exact h.v i hlt
  ·have hi' : i = V.length := by simp at hi; omega
   subst hi'
   have e1 : gV (V ++ [e]) V.length = e := by rw [K7 hi]; simp
   have e2 : fg (L ++ [⟨a, b, c, lo, hiq⟩]) V.length = ⟨a, b, c, lo, hiq⟩ := by rw [h.len, Hl (by simp)]; simp
   rw [e1, e2]
   first
    | exact hx.cast rfl bx
    | exact hy.cast rfl b_y
    | exact hz.cast rfl bz
    | exact hu.cast rfl bu
    | exact hv.cast rfl bv
theorem FsG.add {nx1 : Int} {dx1 : Int} {px1 : Option Addr} {ny1 : Int} {dy1 : Int} {py1 : Option Addr} {nz1 : Int} {dz1 : Int} {pz1 : Option Addr} {nu1 : Int} {du1 : Int} {pu1 : Option Addr} {nv1 : Int} {dv1 : Int} {pv1 : Option Addr} {a b c : Int} {lo hi : Rat} [h : FsG W V L k] [hx : CF W (.agg #[.int .i64 nx1, .int .i64 dx1, .pointer px1]) (a : Rat) kx] [hy : CF W (.agg #[.int .i64 ny1, .int .i64 dy1, .pointer py1]) (b : Rat) ky] [hz : CF W (.agg #[.int .i64 nz1, .int .i64 dz1, .pointer pz1]) (c : Rat) kz] [hu : CF W (.agg #[.int .i64 nu1, .int .i64 du1, .pointer pu1]) lo ku] [hv : CF W (.agg #[.int .i64 nv1, .int .i64 dv1, .pointer pv1]) hi kv] (bx : kx ≤ k) (b_y : ky ≤ k) (bz : kz ≤ k) (bu : ku ≤ k) (bv : kv ≤ k) : FsG W (V ++ [⟨nx1, dx1, px1, ny1, dy1, py1, nz1, dz1, pz1, nu1, du1, pu1, nv1, dv1, pv1⟩]) (L ++ [⟨a, b, c, lo, hi⟩]) k := h.snoc hx hy hz hu hv bx b_y bz bu bv
def Yn (w : World) (L : List FG) (k : Nat) (e : Ending) (w' : World) : Prop := ∃ (a : Option Addr) (c : Nat) (V : List GV), e = .returned (.slice a V.length c) ∧ Sl w' (.slice a V.length c) V.length (F0 V) w' ∧ FsG w' V L k ∧ Below w.heap.size w w'
theorem Yn.fin {w w' w0 : World} {a : Option Addr} {c n : Nat} {L' : List FG} [b : Kp w w'] [hs : Sl w' (.slice a n c) V.length (F0 V) w0] [hv : FsG w' V L k] (e : L = L') (m : k ≤ k') : Yn w L' k' (.returned (.slice a n c)) w' := by
 obtain rfl := hs.len; subst e; exact ⟨a, c, V, rfl, hs.here, hv.mono m, b.out⟩
theorem Qad : (Tryz.prog.info? 165).map (fun i => (i.zero, i.size, i.bytes)) = some (some (.agg #[.int .i64 0, .int .i64 0, .pointer none, .int .i64 0, .int .i64 0, .pointer none, .int .i64 0, .int .i64 0, .pointer none, .int .i64 0, .int .i64 0, .pointer none, .int .i64 0, .int .i64 0, .pointer none, .bool false, .bool false]), 17, 128) := by kernel_rfl
structure HV where
 gx : Bool
 ax : Option Addr
 lx : Nat
 cx : Nat
 gy : Bool
 ay : Option Addr
 ly : Nat
 cy : Nat
 gz : Bool
 az : Option Addr
 lz : Nat
 cz : Nat
 gu : Bool
 au : Option Addr
 lu : Nat
 cu : Nat
 aau : Option Addr
 llu : Nat
 ccu : Nat
 gv : Bool
 av : Option Addr
 lv : Nat
 cv : Nat
 aav : Option Addr
 llv : Nat
 ccv : Nat
def hV (V : List HV) (i : Nat) : HV := V.getD i ⟨false, none, 0, 0, false, none, 0, 0, false, none, 0, 0, false, none, 0, 0, none, 0, 0, false, none, 0, 0, none, 0, 0⟩
end
section
set_option maxHeartbeats 40000000
set_option synthInstance.maxHeartbeats 1000000
set_option synthInstance.maxSize 100000
variable {d1x d1y d1z d2x d2y n1x n1y n1z n2x n2y : Int} {k1x k1y k1z k2x k2y : Nat} {la lb lc x y : Rat} {p1x p1y p1z p2x p2y : Option Addr} {w : World}
theorem Qka [h1x : CF w (.agg #[.int .i64 n1x, .int .i64 d1x, .pointer p1x]) x k1x] [h1y : CF w (.agg #[.int .i64 n1y, .int .i64 d1y, .pointer p1y]) y k1y] (b : k1x ≤ 400000 ∧ k1y ≤ 400000) :
  Calls Tryz.prog 173 #[.agg #[.int .i64 n1x, .int .i64 d1x, .pointer p1x, .int .i64 n1y, .int .i64 d1y, .pointer p1y]] w (Cd w (-y) (x) (k1x + k1y)) := by
 go_enter Tryz.func173, Tryz.ntmps173; go_wp2_with fail; refine rgn [w.heap.size + 1] [] fun hH => ?_; refine tk 0 hH ?_; refine tk 1 hH ?_; refine tk 3 hH ?_; refine tk 4 hH (st 2 fun K hK => ?_); go_simp; refine Ab (Di (by omega)) ?_; intros; refine hd hK fun hH => ?_; refine tk 5 hH (st 6 fun K hK => ?_); go_simp; refine hd hK fun hH => dn ?_; clear hH; go_wp2; refine Ac rfl Tryz.underlying98 rfl (by kernel_rfl) rfl rfl rfl ?_; exact Cd.fin rfl (by omega) rfl (by omega)
theorem Ev [h1x : CF w (.agg #[.int .i64 n1x, .int .i64 d1x, .pointer p1x]) la k1x] [h1y : CF w (.agg #[.int .i64 n1y, .int .i64 d1y, .pointer p1y]) lb k1y] [h1z : CF w (.agg #[.int .i64 n1z, .int .i64 d1z, .pointer p1z]) lc k1z] (b : k1x ≤ 400000 ∧ k1y ≤ 400000 ∧ k1z ≤ 400000) :
  Calls Tryz.prog 136 #[.agg #[.int .i64 n1x, .int .i64 d1x, .pointer p1x, .int .i64 n1y, .int .i64 d1y, .pointer p1y, .int .i64 n1z, .int .i64 d1z, .pointer p1z]] w (Cd w (la) (lb) (max k1x k1y)) := by
 go_enter Tryz.func136, Tryz.ntmps136; go_wp2; refine Ac rfl Tryz.underlying98 rfl (by kernel_rfl) rfl rfl rfl ?_; exact Cd.fin rfl (by omega) rfl (by omega)
theorem Fa [h1x : CF w (.agg #[.int .i64 n1x, .int .i64 d1x, .pointer p1x]) la k1x] [h1y : CF w (.agg #[.int .i64 n1y, .int .i64 d1y, .pointer p1y]) lb k1y] [h1z : CF w (.agg #[.int .i64 n1z, .int .i64 d1z, .pointer p1z]) lc k1z] (b : k1x ≤ 400000 ∧ k1y ≤ 400000 ∧ k1z ≤ 400000) :
  Calls Tryz.prog 128 #[.agg #[.int .i64 n1x, .int .i64 d1x, .pointer p1x, .int .i64 n1y, .int .i64 d1y, .pointer p1y, .int .i64 n1z, .int .i64 d1z, .pointer p1z]] w (Cd w (lb) (-la) (max k1x k1y)) := by
 go_enter Tryz.func128, Tryz.ntmps128; go_wp2_with fail; refine rgn [w.heap.size + 1] [] fun hH => ?_; refine tk 0 hH ?_; refine tk 1 hH ?_; refine tk 2 hH ?_; refine tk 3 hH (st 4 fun K hK => ?_); go_simp; refine Ab (Di (by omega)) ?_; intros; refine hd hK fun hH => ?_; refine tk 5 hH (st 6 fun K hK => ?_); go_simp; refine hd hK fun hH => dn ?_; clear hH; go_wp2; refine Ac rfl Tryz.underlying98 rfl (by kernel_rfl) rfl rfl rfl ?_; exact Cd.fin rfl (by omega) rfl (by omega)
theorem Hh [h1x : CF w (.agg #[.int .i64 n1x, .int .i64 d1x, .pointer p1x]) la k1x] [h1y : CF w (.agg #[.int .i64 n1y, .int .i64 d1y, .pointer p1y]) lb k1y] [h1z : CF w (.agg #[.int .i64 n1z, .int .i64 d1z, .pointer p1z]) lc k1z] [h2x : CF w (.agg #[.int .i64 n2x, .int .i64 d2x, .pointer p2x]) x k2x] [h2y : CF w (.agg #[.int .i64 n2y, .int .i64 d2y, .pointer p2y]) y k2y] (b : k1x ≤ 10000 ∧ k1y ≤ 10000 ∧ k1z ≤ 10000 ∧ k2x ≤ 30000 ∧ k2y ≤ 30000) :
  Calls Tryz.prog 139 #[.agg #[.int .i64 n1x, .int .i64 d1x, .pointer p1x, .int .i64 n1y, .int .i64 d1y, .pointer p1y, .int .i64 n1z, .int .i64 d1z, .pointer p1z], .agg #[.int .i64 n2x, .int .i64 d2x, .pointer p2x, .int .i64 n2y, .int .i64 d2y, .pointer p2y]] w (Bk w (la * x + lb * y + lc) (2 * (max k1x k1y) + k1z + k2x + k2y + 10)) := by
 go_enter Tryz.func139, Tryz.ntmps139; go_wp2_with fail; refine rgn [w.heap.size + 1 + 1] [] fun hH => ?_; refine tk 0 hH ?_; refine tk 2 hH ?_; refine tk 4 hH ?_; refine tk 5 hH (st 1 fun K hK => ?_); go_simp; refine Au (Ev (by omega)) ?_; intros; refine hd hK fun hH => st 3 fun K hK => ?_; go_simp; refine Ab (Ej (by omega)) ?_; intros; refine hd hK fun hH => st 6 fun K hK => ?_; go_simp; refine Ab (Gv (by omega)) ?_; intros; refine hd hK fun hH => st 7 fun K hK => ?_; go_simp; refine hd hK fun hH => dn ?_; clear hH; go_wp2; refine Ac rfl Tryz.underlying96 rfl (by kernel_rfl) rfl rfl rfl ?_; exact Bk.fin rfl (by omega)
theorem Qhw [h1x : CF w (.agg #[.int .i64 n1x, .int .i64 d1x, .pointer p1x]) la k1x] [h1y : CF w (.agg #[.int .i64 n1y, .int .i64 d1y, .pointer p1y]) lb k1y] [h1z : CF w (.agg #[.int .i64 n1z, .int .i64 d1z, .pointer p1z]) lc k1z] [h2x : CF w (.agg #[.int .i64 n2x, .int .i64 d2x, .pointer p2x]) x k2x] [h2y : CF w (.agg #[.int .i64 n2y, .int .i64 d2y, .pointer p2y]) y k2y] (b : k1x ≤ 10000 ∧ k1y ≤ 10000 ∧ k1z ≤ 10000 ∧ k2x ≤ 30000 ∧ k2y ≤ 30000) :
  Calls Tryz.prog 130 #[.agg #[.int .i64 n1x, .int .i64 d1x, .pointer p1x, .int .i64 n1y, .int .i64 d1y, .pointer p1y, .int .i64 n1z, .int .i64 d1z, .pointer p1z], .agg #[.int .i64 n2x, .int .i64 d2x, .pointer p2x, .int .i64 n2y, .int .i64 d2y, .pointer p2y]] w (fun e w' => e = .returned (.int .i64 (isgn (la * x + lb * y + lc).num)) ∧ Below w.heap.size w w') := by
 go_enter Tryz.func130, Tryz.ntmps130
 go_wp2_with (first
  | (go_at_call 139; refine Ab (Hh (by omega)) ?_; intros)
  | (go_at_call 129; refine Aa (Hc (by omega)) ?_; intros))
 go_ret; exact E.fin rfl
theorem Zm [h1x : CF w (.agg #[.int .i64 n1x, .int .i64 d1x, .pointer p1x]) la k1x] [h1y : CF w (.agg #[.int .i64 n1y, .int .i64 d1y, .pointer p1y]) lb k1y] [h1z : CF w (.agg #[.int .i64 n1z, .int .i64 d1z, .pointer p1z]) lc k1z] (b : k1x ≤ 9000 ∧ k1y ≤ 9000 ∧ k1z ≤ 9000) :
  Calls Tryz.prog 213 #[.agg #[.int .i64 n1x, .int .i64 d1x, .pointer p1x, .int .i64 n1y, .int .i64 d1y, .pointer p1y, .int .i64 n1z, .int .i64 d1z, .pointer p1z]] w (Cd w (la * (-lc / (la * la + lb * lb))) (lb * (-lc / (la * la + lb * lb))) (5 * (max k1x k1y) + k1z + 20)) := by
 go_enter Tryz.func213, Tryz.ntmps213
 go_wp2_with (first
  | (go_at_call 136; refine Au (Ev (by omega)) ?_; intros))
 refine rgn [w.heap.size + 1] [] fun hH => ?_; refine tk 0 hH ?_; refine tk 1 hH ?_; refine tk 2 hH ?_; refine tk 4 hH ?_; refine tk 5 hH (st 3 fun K hK => ?_); go_simp; refine Ab (Di (by omega)) ?_; intros; refine hd hK fun hH => st 6 fun K hK => ?_; go_simp; refine Ab (Ej (by omega)) ?_; intros; refine hd hK fun hH => st 7 fun K hK => ?_; go_simp; refine Ab (Dl (by omega)) ?_; intros; refine hd hK fun hH => st 8 fun K hK => ?_; go_simp; refine Au (K3 (by omega)) ?_; intros; refine hd hK fun hH => st 9 fun K hK => ?_; go_simp; refine hd hK fun hH => dn ?_; clear hH; go_wp2; refine Ac rfl Tryz.underlying98 rfl (by kernel_rfl) rfl rfl rfl ?_; exact Cd.fin rfl (by omega) rfl (by omega)
theorem Qhr {n2 d2 : Int} {p2 : Option Addr} {t : Rat} {k2 : Nat} [h1x : CF w (.agg #[.int .i64 n1x, .int .i64 d1x, .pointer p1x]) la k1x] [h1y : CF w (.agg #[.int .i64 n1y, .int .i64 d1y, .pointer p1y]) lb k1y] [h1z : CF w (.agg #[.int .i64 n1z, .int .i64 d1z, .pointer p1z]) lc k1z] [h2 : CF w (.agg #[.int .i64 n2, .int .i64 d2, .pointer p2]) t k2] (b : k1x ≤ 8000 ∧ k1y ≤ 8000 ∧ k1z ≤ 8000 ∧ k2 ≤ 8000) :
  Calls Tryz.prog 176 #[.agg #[.int .i64 n1x, .int .i64 d1x, .pointer p1x, .int .i64 n1y, .int .i64 d1y, .pointer p1y, .int .i64 n1z, .int .i64 d1z, .pointer p1z], .agg #[.int .i64 n2, .int .i64 d2, .pointer p2]] w (Cd w (la * (-lc / (la * la + lb * lb)) + lb * t) (lb * (-lc / (la * la + lb * lb)) + -la * t) (6 * (max k1x k1y) + k1z + k2 + 30)) := by
 go_enter Tryz.func176, Tryz.ntmps176; go_wp2_with fail; refine rgn [w.heap.size + 1 + 1] [] fun hH => ?_; refine tk 0 hH ?_; refine tk 2 hH ?_; refine tk 4 hH (st 1 fun K hK => ?_); go_simp; refine Au (Zm (by omega)) ?_; intros; refine hd hK fun hH => st 3 fun K hK => ?_; go_simp; refine Au (Fa (by omega)) ?_; intros; refine hd hK fun hH => st 5 fun K hK => ?_; go_simp; refine Au (K3 (by omega)) ?_; intros; refine hd hK fun hH => st 6 fun K hK => ?_; go_simp; refine Au (Ln (by omega)) ?_; intros; refine hd hK fun hH => st 7 fun K hK => ?_; go_simp; refine hd hK fun hH => dn ?_; clear hH; go_wp2; refine Ac rfl Tryz.underlying98 rfl (by kernel_rfl) rfl rfl rfl ?_; exact Cd.fin rfl (by omega) rfl (by omega)
theorem Oa [h1x : CF w (.agg #[.int .i64 n1x, .int .i64 d1x, .pointer p1x]) la k1x] [h1y : CF w (.agg #[.int .i64 n1y, .int .i64 d1y, .pointer p1y]) lb k1y] [h1z : CF w (.agg #[.int .i64 n1z, .int .i64 d1z, .pointer p1z]) lc k1z] [h2x : CF w (.agg #[.int .i64 n2x, .int .i64 d2x, .pointer p2x]) x k2x] [h2y : CF w (.agg #[.int .i64 n2y, .int .i64 d2y, .pointer p2y]) y k2y] (b : k1x ≤ 8000 ∧ k1y ≤ 8000 ∧ k1z ≤ 8000 ∧ k2x ≤ 8000 ∧ k2y ≤ 8000) :
  Calls Tryz.prog 122 #[.agg #[.int .i64 n1x, .int .i64 d1x, .pointer p1x, .int .i64 n1y, .int .i64 d1y, .pointer p1y, .int .i64 n1z, .int .i64 d1z, .pointer p1z], .agg #[.int .i64 n2x, .int .i64 d2x, .pointer p2x, .int .i64 n2y, .int .i64 d2y, .pointer p2y]] w (Bk w ((lb * x + -la * y) / (lb * lb + -la * -la)) (6 * (max k1x k1y) + k2x + k2y + 30)) := by
 go_enter Tryz.func122, Tryz.ntmps122
 go_wp2_with (first
  | (go_at_call 128; refine Au (Fa (by omega)) ?_; intros))
 refine rgn [w.heap.size + 1 + 1] [] fun hH => ?_; refine tk 0 hH ?_; refine tk 1 hH ?_; refine tk 3 hH ?_; refine tk 4 hH (st 2 fun K hK => ?_); go_simp; refine Ab (Ej (by omega)) ?_; intros; refine hd hK fun hH => st 5 fun K hK => ?_; go_simp; refine Ab (Ej (by omega)) ?_; intros; refine hd hK fun hH => st 6 fun K hK => ?_; go_simp; refine Ab (Dl (by omega)) ?_; intros; refine hd hK fun hH => st 7 fun K hK => ?_; go_simp; refine hd hK fun hH => dn ?_; clear hH; go_wp2; refine Ac rfl Tryz.underlying96 rfl (by kernel_rfl) rfl rfl rfl ?_; exact Bk.fin rfl (by omega)
end
end Go.Proofs.YtpnpnlmlamfpmaaGreatDoor
