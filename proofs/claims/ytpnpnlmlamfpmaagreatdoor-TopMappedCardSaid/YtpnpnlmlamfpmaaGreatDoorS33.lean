import Derived.Test.YtpnpnlmlamfpmaaGreatDoorS32
namespace Go.Proofs.YtpnpnlmlamfpmaaGreatDoor
set_option linter.unusedSimpArgs false
set_option linter.unusedVariables false
set_option maxHeartbeats 4000000
set_option maxRecDepth 100000
set_option synthInstance.maxHeartbeats 1000000
set_option synthInstance.maxSize 100000
section
open Go.RowKit Cel
variable {C : List FQ} {m : LQ}
theorem Vz {q : Nat} (h : q < C.length) : kept (C.take (q + 1)) m = kept (C.take q) m ++ (if ((sd C q).l.cut (sd C q).v m).2 then [⟨(sd C q).l, ((sd C q).l.cut (sd C q).v m).1⟩] else []) := by
 rw [List.take_succ_eq_append_getElem h, Bz h]; unfold kept; rw [List.flatMap_append]; simp
def Lc (w : World) (C : List FQ) (o : Bool) (e : Ending) (w' : World) : Prop := ∃ (a : Option Addr) (c : Nat) (V : List GW), e = .returned (.tuple #[.slice a V.length c, .bool o]) ∧ Sl w' (.slice a V.length c) V.length (rowW V) w' ∧ Cw w' V C ∧ Below w.heap.size w w'
variable {W w w0 : World} {o : Bool}
theorem Td {P : Program} {f : FuncId} {args : Array Value} {K : Ending → World → Prop} (h : Calls P f args w (Lc w C o))
  (hK : ∀ w' [Kp1 w w'] (a : Option Addr) (c : Nat) (V : List GW) [Sl w' (.slice a V.length c) V.length (rowW V) w'] [Cw w' V C], K (.returned (.tuple #[.slice a V.length c, .bool o])) w') : Calls P f args w K := by
 refine h.mono ?_
 rintro e w' ⟨a, c, V, rfl, hs, hv, hb⟩
 exact @hK w' ⟨hb⟩ a c V hs hv
variable {U V : List GW} {a : Option Addr} {c g n : Nat}
theorem Lc.fin {w' : World} {o' : Bool} [b : Kp w w'] (hs : Sl w' (.slice a n c) V.length (rowW V) w0) (hv : Cw w' V C) (e : o' = o) : Lc w C o (.returned (.tuple #[.slice a n c, .bool o'])) w' := by
 obtain rfl := hs.len; subst e; exact ⟨a, c, V, rfl, hs.here, hv, b.out⟩
theorem Qi4 {K : List FQ} {e : GW} {f : FQ} (h : Cw W U K) (k : Fk W e f) (i : Nat) : Cw W (U.take i ++ e :: U.drop i) (K.take i ++ f :: K.drop i) := (h.take i).app ((Cw.one k).app (h.drop i))
variable {Z : List Value}
theorem Vl (h : Bx W g 165 (rowW U ++ Z)) (hc : U.length ≤ c) : Sl W (.slice (some ⟨g, 0, none⟩) U.length c) U.length (rowW U) W :=
 ⟨.inr ⟨g, c, rfl, hc, fun j u hu => by rw [B8]; rw [List.getElem?_append_left (by rcases Nat.lt_or_ge j (rowW U).length with h | h; exact h; rw [List.getElem?_eq_none h] at hu; cases hu)]; exact hu⟩, fun k e => (by cases e; exact h.lt), fun k e => (by cases e; exact h.lt)⟩
theorem Qa9 (h : Bx W g 165 (rowW U ++ Z)) (e : n = U.length) (hc : n ≤ c) : Sl W (.slice (some ⟨g, 0, none⟩) n c) U.length (rowW U) W := by subst e; exact Vl h hc
theorem Qjr [hs : Sl w (.slice a n c) V.length (rowW V) w0] [hp : Cw w V C] {v : LV} [h1 : Lk w v m] (hV : V.length ≤ 800000) : Calls Tryz.prog 181 #[.slice a n c, .agg #[.int .i64 v.x.n, .int .i64 v.x.d, .pointer v.x.p, .int .i64 v.y.n, .int .i64 v.y.d, .pointer v.y.p, .int .i64 v.z.n, .int .i64 v.z.d, .pointer v.z.p]] w (Lc w (clip C m).1 (clip C m).2) := by
 obtain rfl := hs.len; have hlen := Lib.hid hp.len; obtain ⟨o, ho⟩ : ∃ o, (Cel.part C m IQ.all).2 = o := ⟨_, rfl⟩; have HP := Lib.hid ho; obtain ⟨PI, hPI⟩ : ∃ x, (Cel.part C m IQ.all).1 = x := ⟨_, rfl⟩; obtain ⟨R, hR⟩ : ∃ x, clip C m = x := ⟨_, rfl⟩; rw [hR]; unfold clip at hR; rw [ho, hPI] at hR; go_enter Tryz.func181, Tryz.ntmps181
 cases o
 ·have hR2 : R = (C, decide (0 < place C m)) := by rw [← hR]; rfl
  subst hR2; clear hR ho hPI
  go_wp2_with (first
   | (go_at_call 215; refine Bm (Mu (by omega) HP) ?_; intro w1 _ j1 _)
   | (go_at_call 216; refine Aa (Qig (by omega)) ?_; intro w2 _))
  go_ret2; exact Lc.fin (V := V) ii ii (by simp)
 ·have hR2 : Hid (R = ((kept C m).take (spot (kept C m) m) ++ ⟨m, PI⟩ :: (kept C m).drop (spot (kept C m) m), true)) := Lib.hid (by rw [← hR]; rfl)
  have hPI2 := Lib.hid hPI; clear hR ho hPI
  have ewn : IntKind.i64.wrap ((V.length : Int) + 1) = ((V.length + 1 : Nat) : Int) := by rw [Ap (by omega) (by omega)]; omega
  go_wp2_with (first
   | (go_at_call 215; refine Bm (Mu (by omega) HP) ?_; intro w1 _ j1 _)
   | (refine Qdt rfl 221 Tryz.underlying221 (.const (.int .i64 0)) (.tmp 30) rfl rfl (c := V.length + 1) rfl (by omega) ?_; intro w2 Z0 _ _ _ hZ))
  have hne1 : NeN (w1.heap.size + 1) w.heap.size := ii
  have hne2 : NeN (w1.heap.size + 1) w1.heap.size := ii
  have hne3 : NeN w.heap.size (w1.heap.size + 1) := ii
  have hne4 : NeN w1.heap.size (w1.heap.size + 1) := ii
  have hge1 : Ge w w1.heap.size := ii
  have hj1 : Ik w1 j1 PI := hPI2.out ▸ (ii : Ik w1 j1 _)
  go_loopw [34, 8] (fun x y wr => ∃ (q : Nat) (U : List GW) (Z : List Value), x = .int .i64 (q : Int) ∧ y = .slice (some ⟨w1.heap.size + 1, 0, none⟩) U.length (V.length + 1) ∧ q ≤ V.length ∧ Hid (U.length ≤ q) ∧ Bx wr (w1.heap.size + 1) 165 (rowW U ++ Z) ∧ Ndl Z ∧ Hid ((rowW U ++ Z).length = (V.length + 1) * 17) ∧ Cw wr U (kept (C.take q) m) ∧ Bx wr w.heap.size 161 [.int .i64 v.x.n, .int .i64 v.x.d, .pointer v.x.p, .int .i64 v.y.n, .int .i64 v.y.d, .pointer v.y.p, .int .i64 v.z.n, .int .i64 v.z.d, .pointer v.z.p] ∧ Bx wr w1.heap.size 163 [.int .i64 j1.u.n, .int .i64 j1.u.d, .pointer j1.u.p, .int .i64 j1.v.n, .int .i64 j1.v.d, .pointer j1.v.p, .bool j1.nl, .bool j1.nh] ∧ Ik wr j1 PI ∧ Kp w wr) (fun x _ _ => V.length - (intOf x).toNat)
  case atStart => exact ⟨0, [], _, rfl, rfl, by omega, Lib.hid (Nat.le_refl _), ii, ii, Lib.hid (by simpa [rowW] using hZ), Cw.nil, ii, ii, ii, ii⟩
  case round =>
   obtain ⟨q, U, Z, rfl, rfl, hq, hUq, i1, i2, hl, i3, i4, i5, i6, i7⟩ := hrel; have kw := Kp1.mk i7.out
   by_cases hlt : q < V.length
   ·obtain ⟨g, rfl, hA⟩ := hs.form (by omega); have hlt' : (q : Int) < V.length := (by omega); have lq : LtN q V.length := ⟨hlt⟩
    have ew : IntKind.i64.wrap ((q : Int) + 1) = (q : Int) + 1 := Ap (by omega) (by omega)
    obtain ⟨o, ho⟩ : ∃ o, ((sd C q).l.cut (sd C q).v m).2 = o := ⟨_, rfl⟩; have HV := Lib.hid ho
    have hK := Vz (m := m) (q := q) (C := C) (by have := hlen.out; omega)
    rw [ho] at hK; clear ho
    have hroom : U.length + 1 ≤ V.length + 1 := by have := hUq.out; omega
    cases o
    ·go_wp2_with (first
     | refine A0 (t := 165) (x := .tmp 36) rfl rfl rfl (C6 (k := q) hlt) ?_
     | (go_at_call 179; refine Bm (Cc HV) ?_; intro w5 _ j2 _)
     | refine E6 rfl 221 Tryz.underlying221 (.tmp 52) rfl ⟨(wV V q).l, j2⟩ rfl ?_
     | (at_builtin; go_loud (refine R2 rfl (.tmp 48) (.tmp 53) 221 221 Tryz.underlying221 Tryz.underlying221 rfl rfl rfl ⟨(wV V q).l, j2⟩ rfl hl.out hroom ?_); intro w6 _ _ hl6))
     go_roundw
     case rel => exact ⟨q + 1, U, Z, by go_num, rfl, by omega, Lib.hid (by have := hUq.out; omega), ii, ii, hl, by rw [hK]; simpa using (ii : Cw _ U (kept (C.take q) m)), ii, ii, ii, ii⟩
     case measure => simp [intOf]; omega
    ·go_wp2_with (first
     | refine A0 (t := 165) (x := .tmp 36) rfl rfl rfl (C6 (k := q) hlt) ?_
     | (go_at_call 179; refine Bm (Cc HV) ?_; intro w5 _ j2 _)
     | refine E6 rfl 221 Tryz.underlying221 (.tmp 52) rfl ⟨(wV V q).l, j2⟩ rfl ?_
     | (at_builtin; go_loud (refine R2 rfl (.tmp 48) (.tmp 53) 221 221 Tryz.underlying221 Tryz.underlying221 rfl rfl rfl ⟨(wV V q).l, j2⟩ rfl hl.out hroom ?_); intro w6 _ _ hl6))
     go_roundw
     case rel => exact ⟨q + 1, U ++ [⟨(wV V q).l, j2⟩], Z.drop 17, by go_num, by simp, by omega, Lib.hid (by rw [List.length_append]; have := hUq.out; simp; omega), ii, ii, Lib.hid hl6, by rw [hK]; exact Cw.app ii (Cw.one ii), ii, ii, ii, ii⟩
     case measure => simp [intOf]; omega
   ·obtain rfl : q = V.length := by omega
    rw [List.take_of_length_le (by have := hlen.out; omega)] at i3; obtain ⟨K, hK⟩ : ∃ x, kept C m = x := ⟨_, rfl⟩; rw [hK] at i3
    have hR3 : R = (K.take (spot K m) ++ ⟨m, PI⟩ :: K.drop (spot K m), true) := by rw [hR2.out, hK]
    subst hR3
    have hU1 : U.length ≤ 800000 := by have := hUq.out; omega
    have hsl : Sl wr (.slice (some ⟨w1.heap.size + 1, 0, none⟩) U.length (V.length + 1)) U.length (rowW U) wr := Vl i1 (by have := hUq.out; omega)
    have hsp : spot K m ≤ U.length := by rw [i3.len]; exact Yq (by omega)
    have hroom : U.length + 1 ≤ V.length + 1 := by have := hUq.out; omega
    go_wp2_with (first
     | (go_at_call 217; go_loud (refine (Qgq (V := U) (C := K) (by omega)).mono ?_); rintro x w7 ⟨⟨o7, rfl⟩, hb7⟩; have k7 := Kp1.mk hb7)
     | refine E6 rfl 108 Tryz.underlying108 (.tmp 66) rfl ⟨v, j1⟩ rfl ?_
     | (go_at_call 220; go_loud (refine (Qi2 (U := U) (e := ⟨v, j1⟩) (i := spot K m) (by have := Bx.lt (W := w7) (b := w1.heap.size + 1) ii; omega) hl.out hroom (by omega) hsp).mono ?_); rintro x w9 ⟨rfl, Z9, i91, i92⟩; have s9 : Sr1 _ w9 (w1.heap.size + 1) := ⟨i92, ii⟩))
    go_ret2
    exact Lc.fin (Qa9 i91 (by simp; omega) (by omega)) (Qi4 ii ii _) rfl
end
section
open Go.RowKit Cel
variable {C : List FQ} {V : List GW} {W W2 w w0 : World} {a : Option Addr} {b b1 b2 c n : Nat} {i o p : Bool} {l m : LQ} {v : LV}
theorem Tv [hs : Sl w (.slice a n c) V.length (rowW V) w0] [hp : Cw w V C] [h1 : Lk w v m] (hV : V.length ≤ 800000) (ho : Hid ((clip C m).2 = o)) : Calls Tryz.prog 181 #[.slice a n c, .agg #[.int .i64 v.x.n, .int .i64 v.x.d, .pointer v.x.p, .int .i64 v.y.n, .int .i64 v.y.d, .pointer v.y.p, .int .i64 v.z.n, .int .i64 v.z.d, .pointer v.z.p]] w (Lc w (clip C m).1 o) := by rw [← ho.out]; exact Qjr hV
def Up (w : World) (C D : List FQ) (o p : Bool) (e : Ending) (w' : World) : Prop := ∃ (a : Option Addr) (c : Nat) (V : List GW) (a' : Option Addr) (c' : Nat) (U : List GW), e = .returned (.tuple #[.slice a V.length c, .slice a' U.length c', .bool o, .bool p]) ∧ Sl w' (.slice a V.length c) V.length (rowW V) w' ∧ Cw w' V C ∧ Sl w' (.slice a' U.length c') U.length (rowW U) w' ∧ Cw w' U D ∧ Below w.heap.size w w'
variable {K : Ending → World → Prop} {P : Program} {args : Array Value} {f : FuncId}
theorem Ew {D : List FQ} (h : Calls P f args w (Up w C D o p))
  (hK : ∀ w' [Kp1 w w'] (a : Option Addr) (c : Nat) (V : List GW) (a' : Option Addr) (c' : Nat) (U : List GW) [Sl w' (.slice a V.length c) V.length (rowW V) w'] [Cw w' V C] [Sl w' (.slice a' U.length c') U.length (rowW U) w'] [Cw w' U D], K (.returned (.tuple #[.slice a V.length c, .slice a' U.length c', .bool o, .bool p])) w') : Calls P f args w K := by
 refine h.mono ?_
 rintro e w' ⟨a, c, V, a', c', U, rfl, h1, h2, h3, h4, hb⟩
 exact @hK w' ⟨hb⟩ a c V a' c' U h1 h2 h3 h4
theorem Qfg {fn : Func} {t u v x : Tmp} (h : fn.results = #[.tmp t, .tmp u, .tmp v, .tmp x]) (tmps : Array Value) (P : Program) (w : World) :
  (results fn tmps).run P w = .ok (.tuple #[tmps.getD t undef, tmps.getD u undef, tmps.getD v undef, tmps.getD x undef]) w := by
 simp [results, h]
theorem Es [hs : Sl w (.slice a n c) V.length (rowW V) w0] [hp : Cw w V C] [h1 : Lk w v m] (hV : V.length ≤ 800000) (ho : Hid ((clip C m).2 = o)) (hq : Hid ((clip C (rev m)).2 = p)) : Calls Tryz.prog 126 #[.slice a n c, .agg #[.int .i64 v.x.n, .int .i64 v.x.d, .pointer v.x.p, .int .i64 v.y.n, .int .i64 v.y.d, .pointer v.y.p, .int .i64 v.z.n, .int .i64 v.z.d, .pointer v.z.p]] w (Up w (clip C m).1 (clip C (rev m)).1 o p) := by
 obtain rfl := hs.len; go_enter Tryz.func126, Tryz.ntmps126
 go_wp2_with (first
  | (go_at_call 181; refine Td (Tv (by omega) ho) ?_; intro w1 _ a1 c1 V1 _ _)
  | (go_at_call 180; refine Fg (F6) ?_; intro w2 _ v2 _)
  | (go_at_call 181; refine Td (Tv (by omega) hq) ?_; intro w3 _ a2 c2 V2 _ _))
 try simp only [Exit.inBlock, Exit.then]
 refine bodyPost_ret (Qfg rfl _ _ _) rfl ?_
 exact ⟨a1, c1, V1, a2, c2, V2, rfl, Sl.here ii, ii, Sl.here ii, ii, (ii : Kp w _).out⟩
def TAt (W : World) : Tr → Nat → Prop
 | .leaf i, b => ∃ v : LV, W.heap[b]? = some (.cells #[.int .i64 v.x.n, .int .i64 v.x.d, .pointer v.x.p, .int .i64 v.y.n, .int .i64 v.y.d, .pointer v.y.p, .int .i64 v.z.n, .int .i64 v.z.d, .pointer v.z.p, .pointer none, .pointer none, .bool i] 179 (0, 0))
 | .node l x y, b => ∃ (v : LV) (b1 b2 : Nat), W.heap[b]? = some (.cells #[.int .i64 v.x.n, .int .i64 v.x.d, .pointer v.x.p, .int .i64 v.y.n, .int .i64 v.y.d, .pointer v.y.p, .int .i64 v.z.n, .int .i64 v.z.d, .pointer v.z.p, .pointer (some ⟨b1, 0, none⟩), .pointer (some ⟨b2, 0, none⟩), .bool false] 179 (0, 0)) ∧ Lk W v l ∧ TAt W x b1 ∧ TAt W y b2
variable {t x y : Tr}
theorem TAt.keep (hb : ∀ (b : Nat) (l : Array Value), W.heap[b]? = some (Obj.cells l 179 (0, 0)) → W2.heap[b]? = some (Obj.cells l 179 (0, 0))) (hl : ∀ v l, Lk W v l → Lk W2 v l) : ∀ {b : Nat}, TAt W t b → TAt W2 t b := by
 induction t with
 | leaf i => exact fun ⟨v, h⟩ => ⟨v, hb _ _ h⟩
 | node l x y ihx ihy => exact fun ⟨v, b1, b2, h, h1, h2, h3⟩ => ⟨v, b1, b2, hb _ _ h, hl _ _ h1, ihx h2, ihy h3⟩
class Tk (W : World) (b : Nat) (t : outParam Tr) : Prop where out : TAt W t b
instance Tk.al {o : Obj} [h : Tk W b t] : Tk (W.alloc o) b t := ⟨h.out.keep (fun b l e => by rw [E0 (Ep e)]; exact e) (fun _ _ _ => ii)⟩
instance Tk.dr [h : Tk W b t] : Tk W.drew b t := ⟨TAt.keep (W := W) (W2 := W.drew) (fun _ _ e => e) (fun _ _ _ => ii) h.out⟩
instance (priority := low) Tk.kp [k : Kp1 W W2] [h : Tk W b t] : Tk W2 b t := ⟨h.out.keep (fun b l e => by rw [k.out.block b (Ep e)]; exact e) (fun _ _ _ => ii)⟩
instance (priority := low) Tk.apn [k : Apn W W2] [h : Tk W b t] : Tk W2 b t := ⟨h.out.keep (fun b l e => by
 obtain ⟨row, hg, hr⟩ := k.out; rw [hg.block b (Ep e) (fun eb => ?_)]
 ·exact e
 ·obtain ⟨t', l', h1, h2, _⟩ := (hr b eb.symm).out; rw [h1] at e
  injection e with e
  injection e with _ e2
  exact h2.tree e2) (fun _ _ _ => ii)⟩
instance Tk.st {qb ib : Nat} {xv : Value} [k : SoftB W qb] [h : Tk W b t] : Tk (W.setCell ⟨qb, ib, none⟩ xv) b t := ⟨h.out.keep (fun b l e => by
 simp only [World.setCell, Array.getElem?_modify]
 split
 ·next eb =>
  subst eb; obtain ⟨t', l', h1, h2, _⟩ := k.out; rw [h1] at e
  injection e with e
  injection e with _ e2
  exact absurd e2 h2.tree
 ·exact e) (fun _ _ _ => ii)⟩
theorem Tk.leaf (h : Tk W b (.leaf i)) : ∃ v : LV, Bx W b 179 [.int .i64 v.x.n, .int .i64 v.x.d, .pointer v.x.p, .int .i64 v.y.n, .int .i64 v.y.d, .pointer v.y.p, .int .i64 v.z.n, .int .i64 v.z.d, .pointer v.z.p, .pointer none, .pointer none, .bool i] := by obtain ⟨v, h⟩ := h.out; exact ⟨v, ⟨h⟩⟩
theorem Tk.node (h : Tk W b (.node l x y)) : ∃ (v : LV) (b1 b2 : Nat), Bx W b 179 [.int .i64 v.x.n, .int .i64 v.x.d, .pointer v.x.p, .int .i64 v.y.n, .int .i64 v.y.d, .pointer v.y.p, .int .i64 v.z.n, .int .i64 v.z.d, .pointer v.z.p, .pointer (some ⟨b1, 0, none⟩), .pointer (some ⟨b2, 0, none⟩), .bool false] ∧ Lk W v l ∧ Tk W b1 x ∧ Tk W b2 y := by
 obtain ⟨v, b1, b2, h, h1, h2, h3⟩ := h.out; exact ⟨v, b1, b2, ⟨h⟩, h1, ⟨h2⟩, ⟨h3⟩⟩
theorem Tk.mkLeaf (h : Bx W b 179 [.int .i64 v.x.n, .int .i64 v.x.d, .pointer v.x.p, .int .i64 v.y.n, .int .i64 v.y.d, .pointer v.y.p, .int .i64 v.z.n, .int .i64 v.z.d, .pointer v.z.p, .pointer none, .pointer none, .bool i]) : Tk W b (.leaf i) := ⟨v, h.out⟩
theorem Tk.mkNode (h : Bx W b 179 [.int .i64 v.x.n, .int .i64 v.x.d, .pointer v.x.p, .int .i64 v.y.n, .int .i64 v.y.d, .pointer v.y.p, .int .i64 v.z.n, .int .i64 v.z.d, .pointer v.z.p, .pointer (some ⟨b1, 0, none⟩), .pointer (some ⟨b2, 0, none⟩), .bool false]) (h1 : Lk W v l) (h2 : Tk W b1 x) (h3 : Tk W b2 y) : Tk W b (.node l x y) := ⟨v, b1, b2, h.out, h1, h2.out, h3.out⟩
def Eo (w : World) (t : Tr) (e : Ending) (w' : World) : Prop := ∃ b, e = .returned (.pointer (some ⟨b, 0, none⟩)) ∧ Tk w' b t ∧ Below w.heap.size w w'
theorem A7 (h : Calls P f args w (Eo w t))
  (hK : ∀ w' [Kp1 w w'] (b : Nat) [Tk w' b t], K (.returned (.pointer (some ⟨b, 0, none⟩))) w') : Calls P f args w K := by
 refine h.mono ?_
 rintro e w' ⟨b, rfl, ht, hb⟩
 exact @hK w' ⟨hb⟩ b ht
theorem Eo.fin {w' : World} [k : Kp w w'] (h : Tk w' b t) : Eo w t (.returned (.pointer (some ⟨b, 0, none⟩))) w' := ⟨b, rfl, h, k.out⟩
def isL : Tr → Bool
 | .leaf _ => true
 | .node _ _ _ => false
theorem Um [h : Tk w b t] : Calls Tryz.prog 89 #[.pointer (some ⟨b, 0, none⟩)] w (fun e w' => e = .returned (.bool (isL t)) ∧ Below w.heap.size w w') := by
 cases t with
 | leaf i =>
  obtain ⟨v, hb⟩ := h.leaf; go_enter Tryz.func89, Tryz.ntmps89; go_wp2_with fail; go_ret; exact E.fin rfl
 | node l x y =>
  obtain ⟨v, b1, b2, hb, h1, h2, h3⟩ := h.node; go_enter Tryz.func89, Tryz.ntmps89; go_wp2_with fail; go_ret; exact E.fin rfl
theorem Dq [h : Tk w b (.leaf i)] : Calls Tryz.prog 89 #[.pointer (some ⟨b, 0, none⟩)] w (fun e w' => e = .returned (.bool true) ∧ Below w.heap.size w w') := Um (t := .leaf i)
theorem Da [h : Tk w b (.node l x y)] : Calls Tryz.prog 89 #[.pointer (some ⟨b, 0, none⟩)] w (fun e w' => e = .returned (.bool false) ∧ Below w.heap.size w w') := Um (t := .node l x y)
theorem M2 : Calls Tryz.prog 123 #[.bool i] w (Eo w (.leaf i)) := by
 go_enter Tryz.func123, Tryz.ntmps123; go_wp2_with fail; go_ret; exact Eo.fin (Tk.mkLeaf (v := ⟨⟨0, 0, none⟩, ⟨0, 0, none⟩, ⟨0, 0, none⟩⟩) ii)
theorem G8 [h1 : Lk w v l] [h2 : Tk w b1 x] [h3 : Tk w b2 y] : Calls Tryz.prog 92 #[.agg #[.int .i64 v.x.n, .int .i64 v.x.d, .pointer v.x.p, .int .i64 v.y.n, .int .i64 v.y.d, .pointer v.y.p, .int .i64 v.z.n, .int .i64 v.z.d, .pointer v.z.p], .pointer (some ⟨b1, 0, none⟩), .pointer (some ⟨b2, 0, none⟩)] w (Eo w (.node l x y)) := by
 go_enter Tryz.func92, Tryz.ntmps92; go_wp2_with fail; go_ret; exact Eo.fin (Tk.mkNode (v := v) ii ii ii ii)
theorem Tz [h1 : Lk w v l] [h2 : Tk w b1 x] [h3 : Tk w b2 y] : Calls Tryz.prog 182 #[.agg #[.int .i64 v.x.n, .int .i64 v.x.d, .pointer v.x.p, .int .i64 v.y.n, .int .i64 v.y.d, .pointer v.y.p, .int .i64 v.z.n, .int .i64 v.z.d, .pointer v.z.p], .pointer (some ⟨b1, 0, none⟩), .pointer (some ⟨b2, 0, none⟩)] w (Eo w (Tr.join l x y)) := by
 cases x with
 | node l1 x1 x2 =>
  go_enter Tryz.func182, Tryz.ntmps182; go_wp2_with fail; refine rgn [] [] fun hH => ?_; refine tk 0 hH (st 1 fun K hK => ?_); go_simp; refine Aa (Da) ?_; intros; refine hd hK fun hH => ?_; refine tk 2 hH ?_; refine tkU 3 hH ?_; refine tkU 4 hH ?_; refine tk 5 hH ?_; refine tk 6 hH ?_; refine tkU 7 hH ?_; refine tkU 8 hH ?_; refine tkU 9 hH ?_; refine tkU 10 hH ?_; refine tkU 11 hH ?_; refine tkU 12 hH ?_; refine tkU 13 hH ?_; refine tkU 14 hH ?_; refine tkU 15 hH ?_; refine tk 16 hH (dn ?_); clear hH
  go_wp2_with (first | (go_at_call 92; refine A7 (G8) ?_; intros))
  go_ret; exact Eo.fin ii
 | leaf i =>
  cases y with
  | node l1 x1 x2 =>
   go_enter Tryz.func182, Tryz.ntmps182; go_wp2_with fail; refine rgn [] [] fun hH => ?_; refine tk 0 hH (st 1 fun K hK => ?_); go_simp; refine Aa (Dq) ?_; intros; refine hd hK fun hH => ?_; refine tk 2 hH ?_; refine tk 3 hH (st 4 fun K hK => ?_); go_simp; refine Aa (Da) ?_; intros; refine hd hK fun hH => ?_; refine tk 5 hH ?_; refine tk 6 hH ?_; refine tkU 7 hH ?_; refine tkU 8 hH ?_; refine tkU 9 hH ?_; refine tkU 10 hH ?_; refine tkU 11 hH ?_; refine tkU 12 hH ?_; refine tkU 13 hH ?_; refine tkU 14 hH ?_; refine tkU 15 hH ?_; refine tk 16 hH (dn ?_); clear hH
   go_wp2_with (first | (go_at_call 92; refine A7 (G8) ?_; intros))
   go_ret; exact Eo.fin ii
  | leaf j =>
   obtain ⟨v1, hb1⟩ := h2.leaf; obtain ⟨v2, hb2⟩ := h3.leaf
   by_cases hij : i = j
   ·subst hij
    have e : Tr.join l (.leaf i) (.leaf i) = .leaf i := by simp [Tr.join]
    rw [e]; go_enter Tryz.func182, Tryz.ntmps182; go_wp2_with fail; refine rgn [] [] fun hH => ?_; refine tk 0 hH (st 1 fun K hK => ?_); go_simp; refine Aa (Dq) ?_; intros; refine hd hK fun hH => ?_; refine tk 2 hH ?_; refine tk 3 hH (st 4 fun K hK => ?_); go_simp; refine Aa (Dq) ?_; intros; refine hd hK fun hH => ?_; refine tk 5 hH ?_; refine tk 6 hH ?_; refine tk 7 hH ?_; refine tk 8 hH ?_; refine tk 9 hH ?_; refine tk 10 hH ?_; refine tk 11 hH ?_; refine tk 12 hH ?_; refine tk 13 hH ?_; refine tk 14 hH ?_; refine tk 15 hH ?_; refine tk 16 hH (dn ?_); clear hH; go_wp2_with fail; go_ret; exact Eo.fin ii
   ·have e : Tr.join l (.leaf i) (.leaf j) = .node l (.leaf i) (.leaf j) := by simp [Tr.join, hij]
    rw [e]
    have hb : (i == j) = false := by simpa using hij
    go_enter Tryz.func182, Tryz.ntmps182; go_wp2_with fail; refine rgn [] [] fun hH => ?_; refine tk 0 hH (st 1 fun K hK => ?_); go_simp; refine Aa (Dq) ?_; intros; refine hd hK fun hH => ?_; refine tk 2 hH ?_; refine tk 3 hH (st 4 fun K hK => ?_); go_simp; refine Aa (Dq) ?_; intros; refine hd hK fun hH => ?_; refine tk 5 hH ?_; refine tk 6 hH ?_; refine tk 7 hH ?_; refine tk 8 hH ?_; refine tk 9 hH ?_; refine tk 10 hH ?_; refine tk 11 hH ?_; refine tk 12 hH ?_; refine tk 13 hH ?_; refine tk 14 hH ?_; refine tk 15 hH ?_; refine tk 16 hH (dn ?_); clear hH
    go_wp2_with (first | (go_at_call 92; refine A7 (G8) ?_; intros))
    go_ret; exact Eo.fin ii
end
section
open Go.RowKit Cel
theorem Gk (C : List FQ) (l : LQ) : (clip C l).1.length ≤ C.length + 1 := by
 unfold clip
 split
 ·have h := Jr C l
  simp only [List.length_append, List.length_cons, List.length_take, List.length_drop]; omega
 ·simp
variable {t : Tr}
theorem Pa : ∀ {w w0 : World} {a : Option Addr} {n c : Nat} {V : List GW} {C : List FQ} [hs : Sl w (.slice a n c) V.length (rowW V) w0] [hp : Cw w V C] {b : Nat} [ht : Tk w b t] (hV : V.length + t.depth ≤ 700000), Calls Tryz.prog 127 #[.pointer (some ⟨b, 0, none⟩), .slice a n c] w (Eo w (t.restrict C)) := by
 induction t with
 | leaf i =>
  intro w w0 a n c V C hs hp b ht hV; go_enter Tryz.func127, Tryz.ntmps127
  go_wp2_with (first | (go_at_call 89; refine Aa Dq ?_; intros))
  go_ret; exact Eo.fin ii
 | node l x y ihx ihy =>
  intro w w0 a n c V C hs hp b ht hV; obtain rfl := hs.len; have hlen := Lib.hid hp.len; obtain ⟨v, b1, b2, hb, h1, h2, h3⟩ := ht.node; simp only [Tr.depth] at hV; obtain ⟨o, ho⟩ : ∃ o, (clip C l).2 = o := ⟨_, rfl⟩; obtain ⟨p, hq⟩ : ∃ o, (clip C (rev l)).2 = o := ⟨_, rfl⟩; have HO := Lib.hid ho; have HQ := Lib.hid hq; obtain ⟨R, hR⟩ : ∃ z, (Tr.node l x y).restrict C = z := ⟨_, rfl⟩; rw [hR]
  unfold Tr.restrict at hR
  rw [ho, hq] at hR; clear ho hq
  have l1 := Gk C l
  have l2 := Gk C (rev l)
  have hlen2 := Lib.hid (show V.length = C.length from hlen.out); go_enter Tryz.func127, Tryz.ntmps127
  cases p
  ·obtain rfl : R = x.restrict C := by rw [← hR]; rfl
   clear hR
   go_wp2_with (first | (go_at_call 89; refine Aa (Da) ?_; intros) | (go_at_call 126; refine Ew (Es (by omega) HO HQ) ?_; intro w1 _ a1 c1 V1 a2 c2 V2 _ ik1 _ ik2) | (go_at_call 127; refine A7 (ihx (V := V) (C := C) (by omega)) ?_; intros))
   go_ret; exact Eo.fin ii
  ·cases o
   ·obtain rfl : R = y.restrict C := by rw [← hR]; rfl
    clear hR
    go_wp2_with (first | (go_at_call 89; refine Aa (Da) ?_; intros) | (go_at_call 126; refine Ew (Es (by omega) HO HQ) ?_; intro w1 _ a1 c1 V1 a2 c2 V2 _ ik1 _ ik2) | (go_at_call 127; refine A7 (ihy (V := V) (C := C) (by omega)) ?_; intros))
    go_ret; exact Eo.fin ii
   ·obtain rfl : R = Tr.join l (x.restrict (clip C l).1) (y.restrict (clip C (rev l)).1) := by rw [← hR]; rfl
    clear hR
    go_wp2_with (first | (go_at_call 89; refine Aa (Da) ?_; intros) | (go_at_call 126; refine Ew (Es (by omega) HO HQ) ?_; intro w1 _ a1 c1 V1 a2 c2 V2 _ ik1 _ ik2))
    refine rgn [] [] fun hH => ?_; refine tk 0 hH ?_; refine tk 1 hH ?_; refine tk 2 hH ?_; refine tk 3 hH ?_; refine tk 4 hH ?_; refine tk 5 hH ?_; refine tk 6 hH ?_; refine tk 7 hH ?_; refine tk 8 hH ?_; refine tk 10 hH ?_; refine tk 11 hH ?_; refine tk 12 hH ?_; refine tk 13 hH ?_; refine tk 14 hH (st 9 fun K hK => ?_); go_simp; refine A7 (ihx (V := V1) (C := (clip C l).1) (by rw [ik1.len]; have := hlen.out; omega)) ?_; intros; refine hd hK fun hH => st 15 fun K hK => ?_; go_simp; refine A7 (ihy (V := V2) (C := (clip C (rev l)).1) (by rw [ik2.len]; have := hlen.out; omega)) ?_; intros; refine hd hK fun hH => st 16 fun K hK => ?_; go_simp; refine A7 (Tz) ?_; intros; refine hd hK fun hH => ?_; refine tk 17 hH (dn ?_); clear hH; go_wp2_with fail; go_ret; exact Eo.fin ii
variable {b : Nat} {w : World}
theorem Qgi [ht : Tk w b t] (hV : t.depth ≤ 700000) : Calls Tryz.prog 86 #[.pointer (some ⟨b, 0, none⟩)] w (Eo w (t.restrict [])) := by
 have hs : Sl w (.slice none 0 0) ([] : List GW).length (rowW []) w := Cl
 have hp : Cw w [] [] := Cw.nil
 go_enter Tryz.func86, Tryz.ntmps86
 go_wp2_with (first | (go_at_call 127; refine A7 (Pa (V := []) (C := []) (by simpa using hV)) ?_; intros))
 go_ret; exact Eo.fin ii
theorem Qe3 : ∀ {w : World} {b : Nat} [ht : Tk w b t], Calls Tryz.prog 250 #[.pointer (some ⟨b, 0, none⟩)] w (Eo w t.compl) := by
 induction t with
 | leaf i =>
  intro w b ht; obtain ⟨v, hb⟩ := ht.leaf; go_enter Tryz.func250, Tryz.ntmps250
  go_wp2_with (first | (go_at_call 89; refine Aa (Dq) ?_; intros) | (go_at_call 123; refine A7 M2 ?_; intros))
  go_ret; exact Eo.fin ii
 | node l x y ihx ihy =>
  intro w b ht; obtain ⟨v, b1, b2, hb, h1, h2, h3⟩ := ht.node; go_enter Tryz.func250, Tryz.ntmps250
  go_wp2_with (first | (go_at_call 89; refine Aa (Da) ?_; intros))
  refine rgn [] [] fun hH => ?_; refine tk 0 hH ?_; refine tk 1 hH ?_; refine tk 2 hH ?_; refine tk 3 hH ?_; refine tk 4 hH ?_; refine tk 5 hH ?_; refine tk 6 hH ?_; refine tk 7 hH ?_; refine tk 9 hH ?_; refine tk 10 hH ?_; refine tk 11 hH ?_; refine tk 12 hH (st 8 fun K hK => ?_); go_simp; refine A7 (ihx) ?_; intros; refine hd hK fun hH => st 13 fun K hK => ?_; go_simp; refine A7 (ihy) ?_; intros; refine hd hK fun hH => st 14 fun K hK => ?_; go_simp; refine A7 (G8) ?_; intros; refine hd hK fun hH => ?_; refine tk 15 hH (dn ?_); clear hH; go_wp2_with fail; go_ret; exact Eo.fin ii
theorem Qji {w0 : World} {a : Option Addr} {n c : Nat} {V : List GW} {C : List FQ} [hs : Sl w (.slice a n c) V.length (rowW V) w0] [hp : Cw w V C] {i : Bool} [ht : Tk w b t] (hV : V.length + t.depth ≤ 700000) : Calls Tryz.prog 241 #[.int .i64 4, .bool i, .pointer (some ⟨b, 0, none⟩), .slice a n c] w (Eo w (if i then (t.restrict C).compl else t.restrict C)) := by
 cases i
 ·go_enter Tryz.func241, Tryz.ntmps241
  go_wp2_with (first | (go_at_call 127; refine A7 (Pa (V := V) (C := C) (by omega)) ?_; intros))
  go_ret; exact Eo.fin ii
 ·go_enter Tryz.func241, Tryz.ntmps241
  go_wp2_with (first | (go_at_call 127; refine A7 (Pa (V := V) (C := C) (by omega)) ?_; intros) | (go_at_call 250; refine A7 Qe3 ?_; intros))
  go_ret; exact Eo.fin ii
theorem Ut : ∀ {w : World} {b : Nat} [ht : Tk w b t] (hV : t.depth ≤ 700000), Calls Tryz.prog 150 #[.pointer (some ⟨b, 0, none⟩)] w (fun e w' => e = .returned (.int .i64 (t.depth : Int)) ∧ Below w.heap.size w w') := by
 induction t with
 | leaf i =>
  intro w b ht hV; go_enter Tryz.func150, Tryz.ntmps150
  go_wp2_with (first | (go_at_call 89; refine Aa (Dq) ?_; intros))
  go_ret; exact E.fin rfl
 | node l x y ihx ihy =>
  intro w b ht hV; obtain ⟨v, b1, b2, hb, h1, h2, h3⟩ := ht.node; simp only [Tr.depth] at hV; go_enter Tryz.func150, Tryz.ntmps150
  go_wp2_with (first | (go_at_call 89; refine Aa (Da) ?_; intros))
  refine rgn [] [] fun hH => ?_; refine tk 0 hH ?_; refine tk 1 hH ?_; refine tk 2 hH ?_; refine tk 3 hH ?_; refine tk 5 hH ?_; refine tk 6 hH ?_; refine tk 7 hH ?_; refine tk 8 hH (st 4 fun K hK => ?_); go_simp; refine Aa (ihx (by omega)) ?_; intros; refine hd hK fun hH => st 9 fun K hK => ?_; go_simp; refine Aa (ihy (by omega)) ?_; intros; refine hd hK fun hH => ?_; refine tk 10 hH ?_; refine tk 11 hH ?_; refine tk 12 hH (dn ?_); clear hH; go_wp2_with fail; go_ret
  exact E.fin (by show Value.int .i64 (IntKind.i64.wrap (1 + max (x.depth : Int) (y.depth : Int))) = _; rw [Ap (by omega) (by omega)]; simp only [Tr.depth]; congr 1; omega)
theorem Qes {b0 : Nat} {u : Tr} : ∀ {w w0 : World} {a : Option Addr} {n c : Nat} {V : List GW} {C : List FQ} [hs : Sl w (.slice a n c) V.length (rowW V) w0] [hp : Cw w V C] {b : Nat} [ht : Tk w b t] [hu : Tk w b0 u] (hV : V.length + t.depth + u.depth ≤ 700000), Calls Tryz.prog 221 #[.int .i64 4, .pointer (some ⟨b, 0, none⟩), .pointer (some ⟨b0, 0, none⟩), .slice a n c] w (Eo w (t.merge u C)) := by
 induction t with
 | leaf i =>
  intro w w0 a n c V C hs hp b ht hu hV; obtain rfl := hs.len; obtain ⟨v, hb⟩ := ht.leaf; go_enter Tryz.func221, Tryz.ntmps221
  go_wp2_with (first | (go_at_call 89; refine Aa (Dq) ?_; intros) | (go_at_call 241; refine A7 (Qji (V := V) (C := C) (by omega)) ?_; intros))
  go_ret; exact Eo.fin ii
 | node l x y ihx ihy =>
  intro w w0 a n c V C hs hp b ht hu hV; obtain rfl := hs.len; have hlen := Lib.hid hp.len; obtain ⟨v, b1, b2, hb, h1, h2, h3⟩ := ht.node; simp only [Tr.depth] at hV; obtain ⟨o, ho⟩ : ∃ o, (clip C l).2 = o := ⟨_, rfl⟩; obtain ⟨p, hq⟩ : ∃ o, (clip C (rev l)).2 = o := ⟨_, rfl⟩; have HO := Lib.hid ho; have HQ := Lib.hid hq; obtain ⟨R, hR⟩ : ∃ z, (Tr.node l x y).merge u C = z := ⟨_, rfl⟩; rw [hR]
  unfold Tr.merge at hR
  rw [ho, hq] at hR; clear ho hq
  have l1 := Gk C l
  have l2 := Gk C (rev l)
  go_enter Tryz.func221, Tryz.ntmps221
  cases p
  ·obtain rfl : R = x.merge u C := by rw [← hR]; rfl
   clear hR
   go_wp2_with (first | (go_at_call 89; refine Aa (Da) ?_; intros) | (go_at_call 126; refine Ew (Es (by omega) HO HQ) ?_; intro w1 _ a1 c1 V1 a2 c2 V2 _ ik1 _ ik2) | (go_at_call 221; refine A7 (ihx (V := V) (C := C) (by omega)) ?_; intros))
   go_ret; exact Eo.fin ii
  ·cases o
   ·obtain rfl : R = y.merge u C := by rw [← hR]; rfl
    clear hR
    go_wp2_with (first | (go_at_call 89; refine Aa (Da) ?_; intros) | (go_at_call 126; refine Ew (Es (by omega) HO HQ) ?_; intro w1 _ a1 c1 V1 a2 c2 V2 _ ik1 _ ik2) | (go_at_call 221; refine A7 (ihy (V := V) (C := C) (by omega)) ?_; intros))
    go_ret; exact Eo.fin ii
   ·obtain rfl : R = Tr.join l (x.merge u (clip C l).1) (y.merge u (clip C (rev l)).1) := by rw [← hR]; rfl
    clear hR
    go_wp2_with (first | (go_at_call 89; refine Aa (Da) ?_; intros) | (go_at_call 126; refine Ew (Es (by omega) HO HQ) ?_; intro w1 _ a1 c1 V1 a2 c2 V2 _ ik1 _ ik2))
    refine rgn [] [] fun hH => ?_; refine tk 0 hH ?_; refine tk 1 hH ?_; refine tk 2 hH ?_; refine tk 3 hH ?_; refine tk 4 hH ?_; refine tk 5 hH ?_; refine tk 6 hH ?_; refine tk 7 hH ?_; refine tk 8 hH ?_; refine tk 9 hH ?_; refine tk 10 hH ?_; refine tk 12 hH ?_; refine tk 13 hH ?_; refine tk 14 hH ?_; refine tk 15 hH ?_; refine tk 16 hH ?_; refine tk 17 hH ?_; refine tk 18 hH (st 11 fun K hK => ?_); go_simp; refine A7 (ihx (V := V1) (C := (clip C l).1) (by rw [ik1.len]; have := hlen.out; omega)) ?_; intros; refine hd hK fun hH => st 19 fun K hK => ?_; go_simp; refine A7 (ihy (V := V2) (C := (clip C (rev l)).1) (by rw [ik2.len]; have := hlen.out; omega)) ?_; intros; refine hd hK fun hH => st 20 fun K hK => ?_; go_simp; refine A7 (Tz) ?_; intros; refine hd hK fun hH => ?_; refine tk 21 hH (dn ?_); clear hH; go_wp2_with fail; go_ret; exact Eo.fin ii
end
end Go.Proofs.YtpnpnlmlamfpmaaGreatDoor
