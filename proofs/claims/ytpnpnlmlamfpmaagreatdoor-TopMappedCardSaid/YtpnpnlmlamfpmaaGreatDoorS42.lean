import Derived.Test.YtpnpnlmlamfpmaaGreatDoorS41
namespace Go.Proofs.YtpnpnlmlamfpmaaGreatDoor
set_option linter.unusedSimpArgs false
set_option linter.unusedVariables false
set_option maxHeartbeats 4000000
set_option maxRecDepth 100000
set_option synthInstance.maxHeartbeats 1000000
set_option synthInstance.maxSize 100000
section
open Go.RowKit Cel
def Pk (w : World) (q : LQ) (o : Bool) (e : Ending) (w' : World) : Prop := ∃ v : LV, e = .returned (.tuple #[.agg #[.int .i64 v.x.n, .int .i64 v.x.d, .pointer v.x.p, .int .i64 v.y.n, .int .i64 v.y.d, .pointer v.y.p, .int .i64 v.z.n, .int .i64 v.z.d, .pointer v.z.p], .bool o]) ∧ Lk w' v q ∧ Below w.heap.size w w'
theorem Ja {P : Program} {f : FuncId} {args : Array Value} {w : World} {q : LQ} {o : Bool} {K : Ending → World → Prop} (h : Calls P f args w (Pk w q o)) (hK : ∀ w' [Kp1 w w'] (v : LV) [Lk w' v q], K (.returned (.tuple #[.agg #[.int .i64 v.x.n, .int .i64 v.x.d, .pointer v.x.p, .int .i64 v.y.n, .int .i64 v.y.d, .pointer v.y.p, .int .i64 v.z.n, .int .i64 v.z.d, .pointer v.z.p], .bool o])) w') : Calls P f args w K := by
 refine h.mono ?_
 rintro e w' ⟨v, rfl, hv, hb⟩
 exact @hK w' ⟨hb⟩ v hv
theorem ShL.lk {W : World} {v : LV} {l : LQ} {k1 k2 k3 : Nat} (h : ShL l) (hx : CF W (.agg #[.int .i64 v.x.n, .int .i64 v.x.d, .pointer v.x.p]) l.a k1) (hy : CF W (.agg #[.int .i64 v.y.n, .int .i64 v.y.d, .pointer v.y.p]) l.b k2) (hz : CF W (.agg #[.int .i64 v.z.n, .int .i64 v.z.d, .pointer v.z.p]) l.c k3) : Lk W v l := by
 obtain ⟨A, B, C, _, rfl, h1, h2, h3⟩ := h
 exact ⟨(hx.tight h1 (by show 1 < _; decide)).cast rfl (by decide), (hy.tight h2 (by show 1 < _; decide)).cast rfl (by decide), (hz.tight h3 (by show 1 < _; decide)).cast rfl (by decide)⟩
theorem Kr {w : World} {n1 d1 n2 d2 n3 d3 : Int} {p1 p2 p3 : Option Addr} {x y z : Rat} {k1 k2 k3 : Nat} {l : LQ} [h1 : CF w (.agg #[.int .i64 n1, .int .i64 d1, .pointer p1]) x k1] [h2 : CF w (.agg #[.int .i64 n2, .int .i64 d2, .pointer p2]) y k2] [h3 : CF w (.agg #[.int .i64 n3, .int .i64 d3, .pointer p3]) z k3] (b : k1 ≤ 10000 ∧ k2 ≤ 10000 ∧ k3 ≤ 10000) (h0 : Hid (¬ (x = 0 ∧ y = 0))) (hl : l = ⟨lnK x x y z, lnK y x y z, lnK z x y z⟩) (hs : ShL l) :
    Calls Tryz.prog 137 #[.agg #[.int .i64 n1, .int .i64 d1, .pointer p1], .agg #[.int .i64 n2, .int .i64 d2, .pointer p2], .agg #[.int .i64 n3, .int .i64 d3, .pointer p3]] w (Pk w l true) := by
  refine (Zh b h0).mono ?_
  rintro e w' ⟨nx, dx, px, ny, dy, py, nz, dz, pz, rfl, hx, hy, hz, hb⟩
  exact ⟨⟨⟨nx, dx, px⟩, ⟨ny, dy, py⟩, ⟨nz, dz, pz⟩⟩, rfl, ShL.lk hs (by subst hl; exact hx) (by subst hl; exact hy) (by subst hl; exact hz), hb⟩
theorem Qja {w : World} {v : AW} {m : Aff} {u : LV} {l : LQ} [h : Ak w v m] [hu : Lk w u l] (hdt : m.det ≠ 0) (hl : l.ok) (hs : ShL (Bb m l)) : Calls Tryz.prog 93 #[.agg #[.int .i64 v.p.x.n, .int .i64 v.p.x.d, .pointer v.p.x.p, .int .i64 v.p.y.n, .int .i64 v.p.y.d, .pointer v.p.y.p, .int .i64 v.q.x.n, .int .i64 v.q.x.d, .pointer v.q.x.p, .int .i64 v.q.y.n, .int .i64 v.q.y.d, .pointer v.q.y.p, .int .i64 v.r.x.n, .int .i64 v.r.x.d, .pointer v.r.x.p, .int .i64 v.r.y.n, .int .i64 v.r.y.d, .pointer v.r.y.p], .agg #[.int .i64 u.x.n, .int .i64 u.x.d, .pointer u.x.p, .int .i64 u.y.n, .int .i64 u.y.d, .pointer u.y.p, .int .i64 u.z.n, .int .i64 u.z.d, .pointer u.z.p]] w (L9 w (Bb m l)) := by
  have := h.a; have := h.b; have := h.c; have := h.d; have := h.e; have := h.f
  have := hu.x; have := hu.y; have := hu.z
  have hne : Hid (¬ ((l.a * (Bg m).A + l.b * (Bg m).D) = 0 ∧ (l.a * (Bg m).B + l.b * (Bg m).E) = 0)) := Lib.hid (Nb hdt hl)
  have hEq : Bb m l = ⟨lnK (l.a * (Bg m).A + l.b * (Bg m).D) (l.a * (Bg m).A + l.b * (Bg m).D) (l.a * (Bg m).B + l.b * (Bg m).E) (l.a * (Bg m).C + l.b * (Bg m).F + l.c), lnK (l.a * (Bg m).B + l.b * (Bg m).E) (l.a * (Bg m).A + l.b * (Bg m).D) (l.a * (Bg m).B + l.b * (Bg m).E) (l.a * (Bg m).C + l.b * (Bg m).F + l.c), lnK (l.a * (Bg m).C + l.b * (Bg m).F + l.c) (l.a * (Bg m).A + l.b * (Bg m).D) (l.a * (Bg m).B + l.b * (Bg m).E) (l.a * (Bg m).C + l.b * (Bg m).F + l.c)⟩ := rfl
  have hEh := Lib.hid hEq; clear hEq; go_enter Tryz.func93, Tryz.ntmps93
  go_upto_region 3 with (first
    | refine A0 (t := 100) (x := .tmp 2) rfl rfl rfl (Bc Tryz.underlying100 rfl (by kernel_rfl)) ?_
    | (go_at_call 135; refine Qia (Qfz (v := v)) ?_; intro w5 _ u5 i5; have := i5.a; have := i5.b; have := i5.c; have := i5.d; have := i5.e; have := i5.f)
    | (with_reducible refine Hk (w := w) rfl 100 (.tmp 5) (.tmp 10) rfl rfl rfl (l' := [.int .i64 u5.p.x.n, .int .i64 u5.p.x.d, .pointer u5.p.x.p, .int .i64 u5.p.y.n, .int .i64 u5.p.y.d, .pointer u5.p.y.p, .int .i64 u5.q.x.n, .int .i64 u5.q.x.d, .pointer u5.q.x.p, .int .i64 u5.q.y.n, .int .i64 u5.q.y.d, .pointer u5.q.y.p, .int .i64 u5.r.x.n, .int .i64 u5.r.x.d, .pointer u5.r.x.p, .int .i64 u5.r.y.n, .int .i64 u5.r.y.d, .pointer u5.r.y.p]) rfl (by kernel_rfl) (by simp only [List.length_cons, List.length_nil]) (AW.one u5) ?_; intro W6 _ _ b6 _ _)
    | (go_at_call 136; refine Au (Ev (by decide)) ?_; intros))
  refine rgn [w.heap.size] [] fun hH => ?_; refine tk 0 hH ?_; refine tk 1 hH ?_; refine tk 2 hH ?_; refine tk 4 hH ?_; refine tk 5 hH ?_; refine tk 6 hH ?_; refine tk 8 hH ?_; refine tk 9 hH ?_; refine tk 10 hH ?_; refine Az (rs := [3, 16]) (by kernel_rfl) (by simp) ?_; refine Lm.cons (by simp; rfl) (fun K hK => ?_) (Lm.cons (by simp; rfl) (fun K hK => ?_) Lm.nil)
  · go_simp; refine Ab (Ej (by decide)) ?_; intros; refine hd hK fun hH => ?_; refine Az (rs := [7, 16]) (by kernel_rfl) (by simp) ?_; refine Lm.cons (by simp; rfl) (fun K hK => ?_) (Lm.cons (by simp; rfl) (fun K hK => ?_) Lm.nil)
    · go_simp; refine Ab (Ej (by decide)) ?_; intros; refine hd hK fun hH => ?_; refine Az (rs := [11, 16]) (by kernel_rfl) (by simp) ?_; refine Lm.cons (by simp; rfl) (fun K hK => ?_) (Lm.cons (by simp; rfl) (fun K hK => ?_) Lm.nil)
      · go_simp; refine Ab (Hh (by decide)) ?_; intros; refine hd hK fun hH => ?_; refine Az (rs := [12, 16]) (by kernel_rfl) (by simp) ?_; refine Lm.cons (by simp; rfl) (fun K hK => ?_) (Lm.cons (by simp; rfl) (fun K hK => ?_) Lm.nil)
        · go_simp
          (refine Ja (Kr (l := Bb m l) (by decide) hne hEh.out hs) ?_); intro w14 _ v14 _
          refine hd hK fun hH => ?_; refine tk 13 hH ?_; refine tk 14 hH ?_; refine tk 15 hH (st 16 fun K hK => ?_); go_simp; refine hd hK fun hH => st 17 fun K hK => ?_; go_simp; refine hd hK fun hH => ?_; refine tk 18 hH (dn ?_); clear hH; go_wp2_with fail; refine Ac rfl Tryz.underlying161 rfl (by kernel_rfl) rfl rfl rfl ?_; exact L9.fin v14 ii
        · go_simp; refine hd hK fun hH => st 12 fun K hK => ?_; go_simp
          (refine Ja (Kr (l := Bb m l) (by decide) hne hEh.out hs) ?_); intro w14 _ v14 _
          refine hd hK fun hH => ?_; refine tk 13 hH ?_; refine tk 14 hH ?_; refine tk 15 hH (st 17 fun K hK => ?_); go_simp; refine hd hK fun hH => ?_; refine tk 18 hH (dn ?_); clear hH; go_wp2_with fail; refine Ac rfl Tryz.underlying161 rfl (by kernel_rfl) rfl rfl rfl ?_; exact L9.fin v14 ii
      · go_simp; refine hd hK fun hH => st 11 fun K hK => ?_; go_simp; refine Ab (Hh (by decide)) ?_; intros; refine hd hK fun hH => st 12 fun K hK => ?_; go_simp
        (refine Ja (Kr (l := Bb m l) (by decide) hne hEh.out hs) ?_); intro w14 _ v14 _
        refine hd hK fun hH => ?_; refine tk 13 hH ?_; refine tk 14 hH ?_; refine tk 15 hH (st 17 fun K hK => ?_); go_simp; refine hd hK fun hH => ?_; refine tk 18 hH (dn ?_); clear hH; go_wp2_with fail; refine Ac rfl Tryz.underlying161 rfl (by kernel_rfl) rfl rfl rfl ?_; exact L9.fin v14 ii
    · go_simp; refine hd hK fun hH => st 7 fun K hK => ?_; go_simp; refine Ab (Ej (by decide)) ?_; intros; refine hd hK fun hH => st 11 fun K hK => ?_; go_simp; refine Ab (Hh (by decide)) ?_; intros; refine hd hK fun hH => st 12 fun K hK => ?_; go_simp
      (refine Ja (Kr (l := Bb m l) (by decide) hne hEh.out hs) ?_); intro w14 _ v14 _
      refine hd hK fun hH => ?_; refine tk 13 hH ?_; refine tk 14 hH ?_; refine tk 15 hH (st 17 fun K hK => ?_); go_simp; refine hd hK fun hH => ?_; refine tk 18 hH (dn ?_); clear hH; go_wp2_with fail; refine Ac rfl Tryz.underlying161 rfl (by kernel_rfl) rfl rfl rfl ?_; exact L9.fin v14 ii
  · go_simp; refine hd hK fun hH => st 3 fun K hK => ?_; go_simp; refine Ab (Ej (by decide)) ?_; intros; refine hd hK fun hH => st 7 fun K hK => ?_; go_simp; refine Ab (Ej (by decide)) ?_; intros; refine hd hK fun hH => st 11 fun K hK => ?_; go_simp; refine Ab (Hh (by decide)) ?_; intros; refine hd hK fun hH => st 12 fun K hK => ?_; go_simp
    (refine Ja (Kr (l := Bb m l) (by decide) hne hEh.out hs) ?_); intro w14 _ v14 _
    refine hd hK fun hH => ?_; refine tk 13 hH ?_; refine tk 14 hH ?_; refine tk 15 hH (st 17 fun K hK => ?_); go_simp; refine hd hK fun hH => ?_; refine tk 18 hH (dn ?_); clear hH; go_wp2_with fail; refine Ac rfl Tryz.underlying161 rfl (by kernel_rfl) rfl rfl rfl ?_; exact L9.fin v14 ii
end
section
open Go.RowKit Cel
instance boxT_rdr : BoxT 188 := by constructor <;> decide
instance boxT_bl : BoxT 4 := by constructor <;> decide
class S2 (w W : World) (p q : Nat) : Prop where
 os : W.os = w.os
 tape : W.tape = w.tape
 output : W.output = w.output
 size : w.heap.size ≤ W.heap.size
 blk : ∀ j, j < w.heap.size → j ≠ p → j ≠ q → W.heap[j]? = w.heap[j]?
class S21 (w : outParam World) (W : World) (p q : outParam Nat) : Prop where
 out : S2 w W p q
 sp : SoftB w p
 sq : SoftB w q
variable {w W W2 w0 : World} {p q : Nat}
theorem S2.more (h : S2 w W p q) (ho : W2.os = W.os ∧ W2.tape = W.tape ∧ W2.output = W.output ∧ W.heap.size ≤ W2.heap.size) (hb : ∀ j, j < w.heap.size → j ≠ p → j ≠ q → W2.heap[j]? = W.heap[j]?) : S2 w W2 p q :=
 ⟨ho.1.trans h.os, ho.2.1.trans h.tape, ho.2.2.1.trans h.output, Nat.le_trans h.size ho.2.2.2, fun j hj h1 h2 => (hb j hj h1 h2).trans (h.blk j hj h1 h2)⟩
theorem S2.lt (h : S2 w W p q) {j : Nat} (hj : j < w.heap.size) : j < W.heap.size := Nat.lt_of_lt_of_le hj h.size
instance S2.refl : S2 w w p q := ⟨rfl, rfl, rfl, Nat.le_refl _, fun _ _ _ _ => rfl⟩
instance S2.al {o : Obj} [h : S2 w W p q] : S2 w (W.alloc o) p q := h.more ⟨rfl, rfl, rfl, by rw [World.size_alloc]; omega⟩ (fun j hj _ _ => E0 (h.lt hj))
instance S2.dr [h : S2 w W p q] : S2 w W.drew p q := h.more ⟨rfl, rfl, rfl, Nat.le_refl _⟩ (fun _ _ _ _ => rfl)
instance (priority := low) S2.kp [k : Kp1 W W2] [h : S2 w W p q] : S2 w W2 p q := h.more ⟨k.out.os, k.out.tape, k.out.output, k.out.size⟩ (fun j hj _ _ => k.out.block j (h.lt hj))
instance (priority := low) S2.s2 [k : S21 W W2 p q] [h : S2 w W p q] : S2 w W2 p q := h.more ⟨k.out.os, k.out.tape, k.out.output, k.out.size⟩ (fun j hj h1 h2 => k.out.blk j (h.lt hj) h1 h2)
theorem S2.put {b i : Nat} {x : Value} (h : S2 w W p q) (hb : b = p ∨ b = q ∨ w.heap.size ≤ b) : S2 w (W.setCell ⟨b, i, none⟩ x) p q :=
 h.more ⟨rfl, rfl, rfl, by rw [World.size_setCell]; exact Nat.le_refl _⟩ fun j hj h1 h2 => by
  simp only [World.setCell, Array.getElem?_modify]; rw [if_neg (fun e => by subst e; omega)]
instance S2.st1 {i : Nat} {x : Value} [h : S2 w W p q] : S2 w (W.setCell ⟨p, i, none⟩ x) p q := h.put (.inl rfl)
instance S2.st2 {i : Nat} {x : Value} [h : S2 w W p q] : S2 w (W.setCell ⟨q, i, none⟩ x) p q := h.put (.inr (.inl rfl))
instance (priority := low) Sf1.s2 [k : S21 W W2 p q] : Sf1 W W2 := ⟨k.out.os, k.out.tape, k.out.output, k.out.size, fun j hj => by
 rcases Nat.decEq j p with h1 | rfl
 ·rcases Nat.decEq j q with h2 | rfl
  ·exact .inl (k.out.blk j hj h1 h2)
  ·exact .inr k.sq
 ·exact .inr k.sp⟩
instance (priority := low) Bx.s2 {b : Nat} {t : TypeId} {l : List Value} [k : S21 W W2 p q] [n1 : NeN b p] [n2 : NeN b q] [h : Bx W b t l] : Bx W2 b t l := ⟨by rw [k.out.blk b h.lt n1.out n2.out]; exact h.out⟩
instance (priority := low) Sl.s2 {v : Value} {n : Nat} {xs : List Value} [k : S21 W W2 p q] [l1 : Ge w0 p] [l2 : Ge w0 q] [h : Sl W v n xs w0] : Sl W2 v n xs w0 := h.keep k.out.size (fun g e => k.out.blk g (h.ltW g e) (by have := l1.out; have := h.lt g e; omega) (by have := l2.out; have := h.lt g e; omega))
instance (priority := low) Ex.s2 {L : List Nat} [k : S21 W W2 p q] [n1 : InL p L] [n2 : InL q L] [h : Ex w0 L W] : Ex w0 L W2 := ⟨Nat.le_trans h.size k.out.size, fun j hj hL => by
 rw [k.out.blk j (Nat.lt_of_lt_of_le hj h.size) (fun e => hL (e ▸ n1.out)) (fun e => hL (e ▸ n2.out))]; exact h.block j hj hL⟩
instance (priority := low) Kp.s2 [k : S21 W W2 p q] [g1 : Ge w p] [g2 : Ge w q] [h : Kp w W] : Kp w W2 := ⟨⟨k.out.os.trans h.out.os, k.out.tape.trans h.out.tape, k.out.output.trans h.out.output, Nat.le_trans h.out.size k.out.size, fun j hj => by
 rw [k.out.blk j (Nat.lt_of_lt_of_le hj h.out.size) (by have := g1.out; omega) (by have := g2.out; omega)]; exact h.out.block j hj⟩⟩
def Cu (m n : Nat) : List Value := (List.range n).map fun i => .bool (decide (i < m))
theorem Rv {m n i : Nat} (h : i < n) : (Cu m n)[i]? = some (.bool (decide (i < m))) := by simp [Cu, h]
theorem Qmj {m n : Nat} (h : m < n) : (Cu m n).set m (.bool true) = Cu (m + 1) n := by
 refine List.ext_getElem? fun i => ?_
 rw [List.getElem?_set]
 by_cases hi : i < n
 ·rw [Rv hi, Rv hi]
  by_cases e : m = i
  ·subst e; simp [Cu, h]
  ·rw [if_neg e]
   have : (i < m) ↔ (i < m + 1) := by omega
   simp [this]
 ·have : m ≠ i := by omega
  rw [if_neg this]; simp [Cu, hi]
instance Ndl.seen {m n : Nat} : Ndl (Cu m n) := ⟨fun u hu => by obtain ⟨i, _, rfl⟩ := List.mem_map.1 hu; rfl⟩
theorem Qet {g k j : Nat} {V : List NW} (h : At W g (rowN V) w0) (hk : k < V.length) (hj : j < 8) : W.cell? ⟨g, k * 8 + j, none⟩ = some ((nV V k).c'[j]'hj) := by
 rw [Ha hk]
 exact h.out _ _ (by rw [rowN, F9 NW.len V k j hk hj]; exact List.getElem?_eq_getElem (l := V[k].c') hj)
theorem Qe2 {g k : Nat} {V : List NW} [h : At W g (rowN V) w0] (hk : k < V.length) : (loadVar 184 ⟨g, k * 8, none⟩).run Tryz.prog W = .ok (.agg #[.bool (nV V k).x.g, .slice (nV V k).x.a (nV V k).x.l (nV V k).x.c, .bool (nV V k).y.g, .slice (nV V k).y.a (nV V k).y.l (nV V k).y.c, .bool (nV V k).z.g, .slice (nV V k).z.a (nV V k).z.l (nV V k).z.c, .int .i64 (nV V k).left, .int .i64 (nV V k).right]) W :=
 Ms W g (k * 8) 184 (nV V k).c' _ Tryz.underlying184 rfl (by kernel_rfl) (fun j hj => Qet h hk hj)
theorem Qd4 {x y z : ZV} {l : LQ} [hx : CZ w (.agg #[.bool x.g, .slice x.a x.l x.c]) l.a.num 150] [hy : CZ w (.agg #[.bool y.g, .slice y.a y.l y.c]) l.b.num 150] [hz : CZ w (.agg #[.bool z.g, .slice z.a z.l z.c]) l.c.num 150] (hl : ShL l) : Calls Tryz.prog 134 #[.agg #[.bool x.g, .slice x.a x.l x.c, .bool y.g, .slice y.a y.l y.c, .bool z.g, .slice z.a z.l z.c]] w (Pk w l true) := by
 obtain ⟨A, B, C, hv, e, _⟩ := id hl
 have e1 : l.a.num = A := by rw [e]; rfl
 have e2 : l.b.num = B := by rw [e]; rfl
 have e3 : l.c.num = C := by rw [e]; rfl
 rw [e1] at hx; rw [e2] at hy; rw [e3] at hz
 refine (Qfy (by decide) (Lib.hid hv)).mono ?_
 rintro e w' ⟨nx, dx, px, ny, dy, py, nz, dz, pz, rfl, jx, jy, jz, hb⟩
 exact ⟨⟨⟨nx, dx, px⟩, ⟨ny, dy, py⟩, ⟨nz, dz, pz⟩⟩, rfl, ShL.lk hl (by rw [e]; exact jx) (by rw [e]; exact jy) (by rw [e]; exact jz), hb⟩
def Vv (w : World) (br gs n : Nat) (vn : Value) (t : Tr) (m : Nat) (e : Ending) (w' : World) : Prop := ∃ b, e = .returned (.pointer (some ⟨b, 0, none⟩)) ∧ Tk w' b t ∧ Bx w' br 188 [vn, .slice (some ⟨gs, 0, none⟩) n n, .int .i64 (m : Int), .bool false] ∧ Bx w' gs 4 (Cu m n) ∧ S2 w w' br gs
theorem P3 {P : Program} {f : FuncId} {args : Array Value} {w : World} {br gs n m : Nat} {vn : Value} {t : Tr} {K : Ending → World → Prop} [sp : SoftB w br] [sq : SoftB w gs] (h : Calls P f args w (Vv w br gs n vn t m))
  (hK : ∀ w' [S21 w w' br gs] (b : Nat) [Tk w' b t] [Bx w' br 188 [vn, .slice (some ⟨gs, 0, none⟩) n n, .int .i64 (m : Int), .bool false]] [Bx w' gs 4 (Cu m n)], K (.returned (.pointer (some ⟨b, 0, none⟩))) w') : Calls P f args w K := by
 refine h.mono ?_
 rintro e w' ⟨b, rfl, h1, h2, h3, h4⟩
 exact @hK w' ⟨h4, sp, sq⟩ b h1 h2 h3
theorem Qa1 {br gs : Nat} {a : Option Addr} {c : Nat} {V : List NW} {D : List Nd} {w0 : World} [g1 : Ge w0 br] [g2 : Ge w0 gs] (hne : NeN br gs) (hne2 : NeN gs br) (hV : V.length ≤ 65536) {t : Tr} : ∀ {w : World} {m : Nat} [hs : Sl w (.slice a V.length c) V.length (rowN V) w0] [hn : Cn w V D] [ib : Bx w br 188 [.slice a V.length c, .slice (some ⟨gs, 0, none⟩) V.length V.length, .int .i64 (m : Int), .bool false]] [is : Bx w gs 4 (Cu m V.length)],
  Enc D t m → (∀ l ∈ t.lines, ShL l) → Calls Tryz.prog 91 #[.pointer (some ⟨br, 0, none⟩), .int .i64 (code t m)] w (Vv w br gs V.length (.slice a V.length c) t (m + t.size)) := by
 induction t with
 | leaf i =>
  intro w m hs hn ib is he hl
  have ez : m + (Tr.leaf i).size = m := rfl
  rw [ez]
  cases i
  ·have ec : code (.leaf false) m = -1 := rfl
   rw [ec]; go_enter Tryz.func91, Tryz.ntmps91
   go_wp2_with (first
   | (go_at_call 123; refine A7 M2 ?_; intros))
   go_ret; exact ⟨_, rfl, ii, ii, ii, ii⟩
  ·have ec : code (.leaf true) m = -2 := rfl
   rw [ec]; go_enter Tryz.func91, Tryz.ntmps91
   go_wp2_with (first
   | (go_at_call 123; refine A7 M2 ?_; intros))
   go_ret; exact ⟨_, rfl, ii, ii, ii, ii⟩
 | node l x y ihx ihy =>
  intro w m hs hn ib is he hl; obtain ⟨he1, he2, he3, he4⟩ := he
  have hlen := hn.len
  have hm : m < V.length := (by omega); have lm : LtN m V.length := ⟨hm⟩; obtain ⟨g, rfl, hA⟩ := hs.form (by omega)
  have hk := hn.f m hm
  rw [he2] at hk
  have kx := hk.x
  have ky := hk.y
  have kz := hk.z
  have kl : (nV V m).left = code x (m + 1) := hk.left
  have kr : (nV V m).right = code y (m + 1 + x.size) := hk.right
  have hl0 : ShL l := hl l (by simp [Tr.lines])
  have hlx : ∀ l ∈ x.lines, ShL l := fun l h => hl l (by simp [Tr.lines, h])
  have hly : ∀ l ∈ y.lines, ShL l := fun l h => hl l (by simp [Tr.lines, h])
  have c1 : ((m : Int) == -2) = false := beq_eq_false_iff_ne.2 (by omega)
  have c2 : ((m : Int) == -1) = false := beq_eq_false_iff_ne.2 (by omega)
  have c3 : ¬ ((m : Int) < 0) := (by omega); have c4 : ¬ ((V.length : Int) ≤ (m : Int)) := (by omega)
  have s0 : (Cu m V.length)[m]? = some (.bool false) := by rw [Rv hm]; simp
  have ew : IntKind.i64.wrap ((m : Int) + 1) = ((m + 1 : Nat) : Int) := by rw [Ap (by omega) (by omega)]; rfl
  have is2 : ∀ W : World, Bx W gs 4 (Cu m V.length) → Bx (W.setCell ⟨gs, m, none⟩ (.bool true)) gs 4 (Cu (m + 1) V.length) := fun W h => Bx.re (h := Bx.setS (h := h)) (Qmj hm)
  clear hlen
  have ec : code (.node l x y) m = (m : Int) := rfl
  rw [ec]; go_enter Tryz.func91, Tryz.ntmps91
  go_upto_region 8 with fail
  have ib8 : Bx ((w.setCell ⟨gs, m, none⟩ (.bool true)).setCell ⟨br, 2, none⟩ (.int .i64 ((m : Int) + 1))) br 188 [.slice (some ⟨g, 0, none⟩) V.length c, .slice (some ⟨gs, 0, none⟩) V.length V.length, .int .i64 ((m + 1 : Nat) : Int), .bool false] := Bx.re (h := ii) rfl
  have is8 : Bx ((w.setCell ⟨gs, m, none⟩ (.bool true)).setCell ⟨br, 2, none⟩ (.int .i64 ((m : Int) + 1))) gs 4 (Cu (m + 1) V.length) := by
   have := is2 w is
   exact ii
  have hs8 : Sl ((w.setCell ⟨gs, m, none⟩ (.bool true)).setCell ⟨br, 2, none⟩ (.int .i64 ((m : Int) + 1))) (.slice (some ⟨g, 0, none⟩) V.length c) V.length (rowN V) w0 := ii
  have hn8 : Cn ((w.setCell ⟨gs, m, none⟩ (.bool true)).setCell ⟨br, 2, none⟩ (.int .i64 ((m : Int) + 1))) V D := ii
  have s8 : S2 w ((w.setCell ⟨gs, m, none⟩ (.bool true)).setCell ⟨br, 2, none⟩ (.int .i64 ((m : Int) + 1))) br gs := ii
  generalize ((w.setCell ⟨gs, m, none⟩ (.bool true)).setCell ⟨br, 2, none⟩ (.int .i64 ((m : Int) + 1))) = W8 at *
  clear hs hn ib is hA hk kx ky kz is2 s0 ew c1 c2 c3 c4 ec; obtain ⟨g', e', hA⟩ := hs8.form (by omega)
  cases e'
  have hk := hn8.f m hm
  rw [he2] at hk
  have kx := hk.x
  have ky := hk.y
  have kz := hk.z
  clear hk
  go_upto_region 13 with (first
   | refine A0 (t := 184) (x := .tmp 62) rfl rfl rfl (Qe2 hm) ?_
   | (go_at_call 134; refine Ja (Qd4 (x := (nV V m).x) (y := (nV V m).y) (z := (nV V m).z) hl0) ?_; intro w9 _ v9 k9))
  go_wp2_with (first
   | (go_at_call 91; refine P3 (ihx he3 hlx) ?_; intro w10 _ b10 k10 j10 q10))
  refine rgn [br, gs] [] fun hH => ?_; refine tk 0 hH ?_; refine tk 1 hH ?_; refine tk 2 hH ?_; refine tk 3 hH ?_; refine tk 4 hH (st 5 fun K hK => ?_); go_simp
  (refine P3 (ihy he4 hly) ?_); intro w11 _ b11 k11 j11 q11
  refine hd hK fun hH => st 6 fun K hK => ?_; go_simp; refine A7 (G8 (v := v9)) ?_; intros; refine hd hK fun hH => ?_; refine tk 7 hH (dn ?_); clear hH
  skip
  go_wp2_with fail; go_ret
  have e1 : m + (Tr.node l x y).size = m + 1 + x.size + y.size := by simp only [Tr.size]; omega
  rw [e1]; exact ⟨_, rfl, ii, ii, ii, ii⟩
def TkB (w : World) (t : Tr) (e : Ending) (w' : World) : Prop := ∃ b, e = .returned (.tuple #[.pointer (some ⟨b, 0, none⟩), .bool true]) ∧ Tk w' b t ∧ Below w.heap.size w w'
theorem Na {P : Program} {f : FuncId} {args : Array Value} {w : World} {t : Tr} {K : Ending → World → Prop} (h : Calls P f args w (TkB w t))
  (hK : ∀ w' [Kp1 w w'] (b : Nat) [Tk w' b t], K (.returned (.tuple #[.pointer (some ⟨b, 0, none⟩), .bool true])) w') : Calls P f args w K := by
 refine h.mono ?_
 rintro e w' ⟨b, rfl, h1, h2⟩
 exact @hK w' ⟨h2⟩ b h1
theorem Qf7 : (Tryz.prog.info? 4).map (fun i => (i.zero, i.size, i.bytes)) = some (some (.bool false), 1, 1) := by kernel_rfl
theorem Qku : ∃ i, Tryz.prog.info? 4 = some i ∧ i.zero = some (.bool false) ∧ i.size = 1 ∧ i.bytes = 1 := by
 have hi := Qf7
 cases h : Tryz.prog.info? 4 with
 | none => rw [h] at hi; cases hi
 | some i0 =>
  rw [h] at hi; simp only [Option.map_some, Option.some.injEq, Prod.mk.injEq] at hi; exact ⟨i0, rfl, hi.1, hi.2.1, hi.2.2⟩
theorem Qho {o : Oper} {a : Act} {W : World} {K : Act → World → Prop} {Q : Exit → Act → World → Prop} (ty : TypeId) (hty : Tryz.prog.underlying ty = some (.slice 4)) (x y : Operand) (ho : o.op = .makeSlice ty x y) {n : Nat} (hx : a.eval x = .int .i64 (n : Int)) (hy : a.eval y = .int .i64 (n : Int)) (hn : n ≤ 1000000) {b : Nat} [hS : Sz W b]
  (hK : ∀ W' [Kp1 W W'] [Bx W' b 4 (Cu 0 n)] [Sz W' (b + 1)], K (a.put o.dst (.slice (some ⟨b, 0, none⟩) n n)) W') : o.wp Tryz.prog a W K Q := by
 obtain rfl := hS.out; obtain ⟨i, hi, hz, hsz, hb⟩ := Qku
 have hr := run_make (P := Tryz.prog) W ty 4 i (.bool false) hty hi hz .i64 .i64 (n : Int) (n : Int) (by omega) (by omega) (by rw [hb]; omega) (by omega)
 rw [Int.toNat_natCast, hsz] at hr
 have e : (madeCells (Value.bool false).cells (n * 1)).toList = Cu 0 n := by
  refine List.ext_getElem? fun j => ?_
  unfold madeCells Cu
  by_cases hj : j < n
  ·simp [hj, Value.cells, Nat.mod_one]
  ·simp [hj, Value.cells]
 unfold Oper.wp execOp
 simp only [ho, hx, hy, Sem.run_bind, hr, Sem.run_pure, Result.andThen_ok]
 have i1 : Kp1 W (W.alloc (.cells (madeCells (Value.bool false).cells (n * 1)) 4)) := ⟨Bh _ _⟩
 have i2 : Bx (W.alloc (.cells (madeCells (Value.bool false).cells (n * 1)) 4)) W.heap.size 4 (Cu 0 n) := ⟨by rw [P6, ← e]⟩
 have i3 : Sz (W.alloc (.cells (madeCells (Value.bool false).cells (n * 1)) 4)) (W.heap.size + 1) := ii
 exact hK _
theorem Lv {w w0 : World} {a : Option Addr} {n c : Nat} {V : List NW} {t : Tr} [hs : Sl w (.slice a n c) V.length (rowN V) w0] [hn : Cn w V (A4 t 0)] (hV : t.size ≤ 65536) (hl : ∀ l ∈ t.lines, ShL l) :
  Calls Tryz.prog 46 #[.agg #[.int .i64 (code t 0), .slice a n c]] w (TkB w t) := by
 obtain rfl := hs.len
 have hs' := hs.here
 clear hs
 have hlen : V.length = t.size := by rw [hn.len, Px]
 have hV' : V.length ≤ 65536 := (by omega)
 have he : Enc (A4 t 0) t 0 := by have := Qjx t [] []; simpa using this
 have hlh := Lib.hid hlen; clear hlen; have hc : ¬ ((65536 : Int) < V.length) := (by omega)
 have ez : 0 + t.size = V.length := by rw [hlh.out, Nat.zero_add]
 have ezh := Lib.hid ez; clear ez; go_enter Tryz.func46, Tryz.ntmps46
 go_upto_region 3 with fail
 refine rgn [] [] fun hH => ?_; refine tk 0 hH ?_; refine tk 1 hH ?_; refine tk 2 hH ?_; refine tk 3 hH ?_; refine tk 4 hH (st 5 fun K hK => ?_)
 try rw [if_pos (by rfl)]
 refine Qho (n := V.length) 186 Tryz.underlying186 (.tmp 14) (.tmp 14) rfl rfl rfl (by omega) ?_
 intro W5 _ b5 z5; refine hd hK fun hH => ?_; refine tk 6 hH (st 7 fun K hK => ?_); go_simp; refine hd hK fun hH => ?_; refine tk 8 hH (dn ?_); clear hH
 skip
 have z6 := z5.out
 have g5 : Ge w W5.heap.size := ⟨by omega⟩
 have n1 : NeN W5.heap.size (w.heap.size + 1) := ⟨by omega⟩
 have n2 : NeN (w.heap.size + 1) W5.heap.size := ⟨by omega⟩
 clear z6
 go_wp2_with (first
  | (go_at_call 91; refine P3 (Qa1 (br := W5.heap.size) (gs := w.heap.size + 1) (w0 := w) (V := V) (m := 0) n1 n2 hV' he hl) ?_; intro w6 _ b6 k6 j6 q6; rw [ezh.out] at j6))
 refine rgn [] [] fun hH => ?_; refine tk 0 hH ?_; refine tk 1 hH ?_; refine tk 2 hH ?_; refine tk 3 hH ?_; refine tk 4 hH ?_; refine tk 5 hH ?_; refine tk 6 hH ?_; refine tk 7 hH ?_; refine tk 8 hH ?_; refine tk 9 hH ?_; refine tk 10 hH ?_; refine tk 11 hH ?_; refine tk 12 hH ?_; refine tk 13 hH (dn ?_); clear hH
 skip
 go_wp2_with fail; go_ret2; exact ⟨_, rfl, ii, (ii : Kp w _).out⟩
end
end Go.Proofs.YtpnpnlmlamfpmaaGreatDoor
