import Derived.Test.YtpnpnlmlamfpmaaGreatDoorS29
import Derived.Laws.CopyRow
import Derived.Laws.Externs
import Derived.Laws.MakeOwn
import Derived.Lib.Overlaps
namespace Go.Proofs.YtpnpnlmlamfpmaaGreatDoor
set_option linter.unusedSimpArgs false
set_option linter.unusedVariables false
set_option maxHeartbeats 4000000
set_option maxRecDepth 100000
set_option synthInstance.maxHeartbeats 1000000
set_option synthInstance.maxSize 100000
section
open Go.RowKit Cel
class Sr1 (W : outParam World) (W2 : World) (g : outParam Nat) : Prop where
 gb : W.grownBy W2 (some g)
 soft : SoftB W g
variable {W W2 w : World} {b boff dCap dLen g n off sCap sLen : Nat}
instance (priority := low) Ex1.sr [k : Sr1 W W2 g] : Ex1 W [g] W2 := ⟨⟨k.gb.size, fun j hj hL => k.gb.block j hj (fun e => hL (by injection e with e; simp [e]))⟩⟩
instance (priority := low) Apn.sr [k : Sr1 W W2 g] : Apn W W2 := ⟨⟨some g, k.gb, fun j e => by cases e; exact k.soft⟩⟩
instance (priority := low) Kp.sr [k : Sr1 W W2 g] [h : Kp w W] [n : Ge w g] : Kp w W2 := ⟨h.out.grown k.gb h.out.size (fun x e => by cases e; exact n.out)⟩
instance (priority := low) Gb.sr [k : Sr1 W W2 g] [h : Gb w W g] : Gb w W2 g := ⟨⟨k.gb.os.trans h.out.os, k.gb.tape.trans h.out.tape, k.gb.output.trans h.out.output, Nat.le_trans h.out.size k.gb.size, fun j hj hn => by rw [k.gb.block j (Nat.lt_of_lt_of_le hj h.out.size) hn]; exact h.out.block j hj hn⟩⟩
instance Ndl.rowW {V : List GW} : Ndl (rowW V) := ⟨F7 V⟩
instance Ndl.app {a b : List Value} [h : Ndl a] [k : Ndl b] : Ndl (a ++ b) := ⟨fun u hu => (List.mem_append.1 hu).elim (h.out u) (k.out u)⟩
instance Ndl.drop {a : List Value} [h : Ndl a] : Ndl (a.drop n) := ⟨fun u hu => h.out u (List.mem_of_mem_drop hu)⟩
variable {R T : List Value}
theorem N7 {t : TypeId} {R' : List Value} [h : Bx W g t R] [s : SoftB W g] : Sr1 W (W.setRow g R'.toArray) g ∧ Bx (W.setRow g R'.toArray) g t R' :=
 ⟨⟨⟨rfl, rfl, rfl, by simp [World.setRow], fun j hj hn => by
  simp only [World.setRow, Array.getElem?_modify]
  rw [if_neg (fun e => hn (by rw [e]))]⟩, s⟩, ⟨setRow_heap W g _ _ t _ h.out⟩⟩
theorem Kw : ∃ i, Tryz.prog.info? 165 = some i ∧ (∃ z, i.zero = some z ∧ ∀ u ∈ z.cells.toList, Am u = false) ∧ i.size = 17 ∧ i.bytes = 128 := by
 have hi := Hs
 cases h : Tryz.prog.info? 165 with
 | none => rw [h] at hi; cases hi
 | some i0 =>
  rw [h] at hi; simp only [Option.map_some, Option.some.injEq, Prod.mk.injEq] at hi; obtain ⟨h1, h2, h3⟩ := hi
  exact ⟨i0, rfl, ⟨_, h1, by decide⟩, h2, h3⟩
variable {Q : Exit → Act → World → Prop} {a : Act} {o : Oper} {ops : Array Oper} {rest : List Oper}
theorem Qdt (hg : o.guard = none) (ty : TypeId) (hty : Tryz.prog.underlying ty = some (.slice 165)) (x y : Operand) (ho : o.op = .makeSlice ty x y) (hx : a.eval x = .int .i64 0) {c : Nat} (hy : a.eval y = .int .i64 (c : Int)) (hc : c ≤ 1000000) [hS : Sz W b]
  (hK : ∀ W' Z [Kp1 W W'] [Bx W' b 165 (rowW [] ++ Z)] [Ndl Z], Z.length = c * 17 → wpList Tryz.prog ops Q rest (a.put o.dst (.slice (some ⟨b, 0, none⟩) 0 c)) W') : wpList Tryz.prog ops Q (o :: rest) a W := by
 obtain rfl := hS.out; obtain ⟨i, hi, ⟨z, hz, hnd⟩, hsz, hb⟩ := Kw
 have hr := run_make (P := Tryz.prog) W ty 165 i z hty hi hz .i64 .i64 0 (c : Int) (by omega) (by omega) (by rw [hb]; omega) (by omega)
 rw [Int.toNat_natCast, hsz] at hr
 have hsize := size_madeCells z.cells (c * 17)
 refine wpList_plain hg fun K hKK => ?_
 unfold Oper.wp execOp
 simp only [ho, hx, hy, Sem.run_bind, hr, Sem.run_pure, Result.andThen_ok]
 have i1 : Kp1 W (W.alloc (.cells (madeCells z.cells (c * 17)) 165)) := ⟨Bh _ _⟩
 have i2 : Bx (W.alloc (.cells (madeCells z.cells (c * 17)) 165)) W.heap.size 165 (rowW [] ++ (madeCells z.cells (c * 17)).toList) := ⟨by rw [P6]; rfl⟩
 have i3 : Ndl (madeCells z.cells (c * 17)).toList := ⟨fun u hu => by
  unfold madeCells at hu; simp only [Array.toList_map, List.mem_map, Array.toList_range, List.mem_range] at hu; obtain ⟨j, hj, rfl⟩ := hu
  have hp : 0 < z.cells.size := by
   rcases Nat.eq_zero_or_pos z.cells.size with e | e
   ·have h1 := hi
    have h2 : z.cells.size = 17 := by
     have h3 := Hs
     rw [hi] at h3; simp only [Option.map_some, Option.some.injEq, Prod.mk.injEq] at h3
     have h4 := h3.1
     rw [hz] at h4
     injection h4 with h4
     rw [h4]; rfl
    omega
   ·exact e
  rw [getElem!_pos z.cells (j % z.cells.size) (Nat.mod_lt j hp)]
  exact hnd _ (by simp)⟩
 exact hKK _ _ (@hK _ _ i1 i2 i3 (by simpa using hsize))
theorem R2 (hg : o.guard = none) (s x : Operand) (t t' : TypeId) (ht : Tryz.prog.underlying t = some (.slice 165)) (ht' : Tryz.prog.underlying t' = some (.slice 165))
  (hop : o.op = .call { callee := .builtin .append, args := #[s, x], argTypes := #[t, t'] }) {cap : Nat} (hs : a.eval s = .slice (some ⟨g, 0, none⟩) n cap) (hx : a.eval x = .slice (some ⟨b, 0, none⟩) 1 1) (e : GW) [hb : Bx W b 165 [.int .i64 e.l.x.n, .int .i64 e.l.x.d, .pointer e.l.x.p, .int .i64 e.l.y.n, .int .i64 e.l.y.d, .pointer e.l.y.p, .int .i64 e.l.z.n, .int .i64 e.l.z.d, .pointer e.l.z.p, .int .i64 e.i.u.n, .int .i64 e.i.u.d, .pointer e.i.u.p, .int .i64 e.i.v.n, .int .i64 e.i.v.d, .pointer e.i.v.p, .bool e.i.nl, .bool e.i.nh]]
  {U : List GW} {Z : List Value} [hr : Bx W g 165 (rowW U ++ Z)] [hz : Ndl Z] (hn : n = U.length) (hl : (rowW U ++ Z).length = cap * 17) (hroom : U.length + 1 ≤ cap)
  (hK : ∀ W' [Sr1 W W' g] [Bx W' g 165 (rowW (U ++ [e]) ++ Z.drop 17)], (rowW (U ++ [e]) ++ Z.drop 17).length = cap * 17 → wpList Tryz.prog ops Q rest (a.put o.dst (.slice (some ⟨g, 0, none⟩) (U.length + 1) cap)) W') : wpList Tryz.prog ops Q (o :: rest) a W := by
 subst hn; obtain ⟨i, hi, _, hsz, _⟩ := Kw
 have hU := Dj U
 rw [List.length_append] at hl
 have hnews : ∀ j u, e.c[j]? = some u → W.cell? ((⟨b, 0, none⟩ : Addr).add j) = some u := fun j u hu => by
  have hadd : (⟨b, 0, none⟩ : Addr).add j = ⟨b, j, none⟩ := by unfold Addr.add; split <;> simp_all
  rw [hadd, B8]; exact hu
 have hf := run_firstCells_some (P := Tryz.prog) W i.size 1 ⟨b, 0, none⟩ 1 1 e.c (by rw [hsz]; rfl) hnews
 have hst := run_storeCells_at Tryz.prog g (U.length * i.size) 165 e.c 0 (rowW U ++ Z).toArray W hr.out (by rw [hsz]; simp only [List.size_toArray, List.length_append, GW.len]; omega) e.one
 simp only [Nat.add_zero] at hst
 have hrun : (Builtin.append_ #[t, t'] o.type #[.slice (some ⟨g, 0, none⟩) U.length cap, .slice (some ⟨b, 0, none⟩) 1 1]).run Tryz.prog W = .ok (.slice (some ⟨g, 0, none⟩) (U.length + 1) cap) (W.setRow g ((rowW U ++ Z).take (U.length * 17) ++ e.c ++ (rowW U ++ Z).drop (U.length * 17 + 17)).toArray) := by
  rw [hsz] at hst hf
  have hst' := hst
  simp only [GW.len] at hst'; simp [Builtin.append_, run_underlying ht, run_underlying ht', sizeOf, typeInfo, hi, hsz, Builtin.lenOf, hroom, hf, Addr.add_lit, hst']
 have hc : (rowW U ++ Z).take (U.length * 17) ++ e.c ++ (rowW U ++ Z).drop (U.length * 17 + 17) = rowW (U ++ [e]) ++ Z.drop 17 := by
  rw [Qbb, ← hU, List.take_left, List.drop_append]
  have : (rowW U).drop ((rowW U).length + 17) = [] := List.drop_eq_nil_of_le (by omega)
  rw [this]; simp
 rw [hc] at hrun
 refine wpList_plain hg fun K hKK => ?_
 unfold Oper.wp execOp
 simp only [hop, resolve, invoke, builtin, Sem.run_bind, Sem.run_pure, Result.andThen_ok, List.map_toArray, List.map_cons, List.map_nil, hs, hx, hrun]; obtain ⟨i1, i2⟩ := N7 (W := W) (g := g) (R := rowW U ++ Z) (R' := rowW (U ++ [e]) ++ Z.drop 17)
 exact hKK _ _ (@hK _ i1 i2 (by rw [List.length_append, Dj, List.length_append, List.length_drop, List.length_singleton]; omega))
theorem Qfn (W : World) (dT sT ty : TypeId) (hu : Tryz.prog.underlying dT = some (.slice 165)) (g o dLen dCap : Nat) (a : Addr) (sLen sCap : Nat) (cur : Array Value) (t : TypeId) (cs : List Value) (hg : W.heap[g]? = some (.cells cur t (0, 0))) (hn : cs.length = Nat.min sLen dLen * 17)
  (hsrc : ∀ j v, cs[j]? = some v → W.cell? (a.add j) = some v) (hfit : o + cs.length ≤ cur.size) (h1 : ∀ v ∈ cs, v.oneCell' = true) :
  (Builtin.copy_ #[dT, sT] ty #[.slice (some ⟨g, o, none⟩) dLen dCap, .slice (some a) sLen sCap]).run Tryz.prog W = .ok (goInt (Nat.min sLen dLen)) (W.setRow g (cur.toList.take o ++ cs ++ cur.toList.drop (o + cs.length)).toArray) := by
 obtain ⟨i, hi, _, hsz, _⟩ := Kw
 have hl := run_loadCells_list (P := Tryz.prog) W a cs hsrc
 have hst := run_storeCells_at Tryz.prog g o t cs 0 cur W hg (by simpa using hfit) h1
 rw [hn] at hl; simp [Builtin.copy_, run_underlying hu, Builtin.lenOf, Builtin.firstCells, sizeOf, typeInfo, hi, hsz, hl, hst]
theorem Yh {K : Act → World → Prop} (d x : Operand) (t t' : TypeId) (ht : Tryz.prog.underlying t = some (.slice 165)) (hop : o.op = .call { callee := .builtin .copy, args := #[d, x], argTypes := #[t, t'] }) (hd : a.eval d = .slice (some ⟨g, off, none⟩) dLen dCap) (hx : a.eval x = .slice (some ⟨b, boff, none⟩) sLen sCap) [hr : Bx W g 165 R] [hz : Ndl R] [hb : Bx W b 165 T] (cs : List Value) (hc : ∀ j v, cs[j]? = some v → T[boff + j]? = some v)
  (hn : cs.length = Nat.min sLen dLen * 17) (hfit : off + cs.length ≤ R.length) (h1 : ∀ v ∈ cs, v.oneCell' = true) (R' : List Value) (hR : R.take off ++ cs ++ R.drop (off + cs.length) = R')
  (hK : ∀ W' [Sr1 W W' g] [Bx W' g 165 R'], K (a.put o.dst (goInt (Nat.min sLen dLen))) W') : o.wp Tryz.prog a W K Q := by
 have hrun := Qfn W t t' o.type ht g off dLen dCap ⟨b, boff, none⟩ sLen sCap R.toArray _ cs hr.out hn (fun j v hj => by rw [Addr.add_lit, B8]; exact hc j v hj) (by simpa using hfit) h1
 have hR2 : (R.toArray.toList.take off ++ cs ++ R.toArray.toList.drop (off + cs.length)).toArray = R'.toArray := by rw [← hR]
 rw [hR2] at hrun
 unfold Oper.wp execOp
 simp only [hop, resolve, invoke, builtin, Sem.run_bind, Sem.run_pure, Result.andThen_ok, List.map_toArray, List.map_cons, List.map_nil, hd, hx, hrun]; obtain ⟨i1, i2⟩ := N7 (W := W) (g := g) (R := R) (R' := R'); exact @hK _ i1 i2
theorem Qee (hgd : o.guard = none) (d x : Operand) (t t' : TypeId) (ht : Tryz.prog.underlying t = some (.slice 165)) (hop : o.op = .call { callee := .builtin .copy, args := #[d, x], argTypes := #[t, t'] }) (hd : a.eval d = .slice (some ⟨g, off, none⟩) dLen dCap) (hx : a.eval x = .slice (some ⟨b, boff, none⟩) sLen sCap) [hr : Bx W g 165 R] [hz : Ndl R] [hb : Bx W b 165 T] (cs : List Value) (hc : ∀ j v, cs[j]? = some v → T[boff + j]? = some v)
  (hn : cs.length = Nat.min sLen dLen * 17) (hfit : off + cs.length ≤ R.length) (h1 : ∀ v ∈ cs, v.oneCell' = true) (R' : List Value) (hR : R.take off ++ cs ++ R.drop (off + cs.length) = R')
  (hK : ∀ W' [Sr1 W W' g] [Bx W' g 165 R'], wpList Tryz.prog ops Q rest (a.put o.dst (goInt (Nat.min sLen dLen))) W') : wpList Tryz.prog ops Q (o :: rest) a W :=
 wpList_plain hgd fun K hKK => Yh d x t t' ht hop hd hx cs hc hn hfit h1 R' hR (fun W' => hKK _ _ (hK W'))
end
section
open Go.RowKit Cel
theorem Qiu (u v : Rat × Rat) : Gs u.1 u.2 v.1 v.2 = Fv u v := by
 have hh : ∀ p : Rat × Rat, Cj p.1 p.2 = Ji p := fun p => by
  unfold Cj Rs Ji
  rcases Gp p.1 with ⟨h, e⟩ | ⟨h, e⟩ | ⟨h, e⟩ <;> rcases Gp p.2 with ⟨h', e'⟩ | ⟨h', e'⟩ | ⟨h', e'⟩ <;> rw [e, e'] <;> simp <;> grind
 unfold Gs Fv; rw [hh, hh, R7]
theorem Qs {o : Oper} {ev : Operand → Value} {t : TypeId} {x : Operand} {ad : Addr} {v : Value} {wx : World} (hop : o.op = .load t x) (hx : ev x = .pointer (some ad)) (hl : (loadVar t ad).run Tryz.prog wx = .ok v wx) : (execOp ev o).run Tryz.prog wx = .ok (.value v) wx := by
 simp [execOp, hop, hx, Instr.loadAt, Instr.sureAddr, hl, Result.andThen]
variable {e : GW} {f : FQ} {m : LQ} {v : LV} {w : World}
theorem T9 [h1 : Fk w e f] [h2 : Lk w v m] : Calls Tryz.prog 218 #[.agg #[.int .i64 e.l.x.n, .int .i64 e.l.x.d, .pointer e.l.x.p, .int .i64 e.l.y.n, .int .i64 e.l.y.d, .pointer e.l.y.p, .int .i64 e.l.z.n, .int .i64 e.l.z.d, .pointer e.l.z.p, .int .i64 e.i.u.n, .int .i64 e.i.u.d, .pointer e.i.u.p, .int .i64 e.i.v.n, .int .i64 e.i.v.d, .pointer e.i.v.p, .bool e.i.nl, .bool e.i.nh], .agg #[.int .i64 v.x.n, .int .i64 v.x.d, .pointer v.x.p, .int .i64 v.y.n, .int .i64 v.y.d, .pointer v.y.p, .int .i64 v.z.n, .int .i64 v.z.d, .pointer v.z.p]] w (fun x w' => x = .returned (.int .i64 (Fv f.l.dir m.dir)) ∧ Below w.heap.size w w') := by
 rw [← Qiu]; go_enter Tryz.func218, Tryz.ntmps218; go_wp2_with fail; refine rgn [] [] fun hH => ?_; refine tk 0 hH ?_; refine tk 1 hH ?_; refine tk 3 hH (st 2 fun K hK => ?_); go_simp; refine Au (Fa (by omega)) ?_; intros; refine hd hK fun hH => st 4 fun K hK => ?_; go_simp; refine Au (Fa (by omega)) ?_; intros; refine hd hK fun hH => st 5 fun K hK => ?_; go_simp; refine Aa (Qlk (by omega)) ?_; intros; refine hd hK fun hH => ?_; refine tk 6 hH (dn ?_); clear hH; go_wp2_with fail; go_ret; exact E.fin rfl
theorem Z3 {s : Int} [h1 : Fk w e f] [h2 : Lk w v m] (hv : Hid (Fv f.l.dir m.dir = s)) : Calls Tryz.prog 218 #[.agg #[.int .i64 e.l.x.n, .int .i64 e.l.x.d, .pointer e.l.x.p, .int .i64 e.l.y.n, .int .i64 e.l.y.d, .pointer e.l.y.p, .int .i64 e.l.z.n, .int .i64 e.l.z.d, .pointer e.l.z.p, .int .i64 e.i.u.n, .int .i64 e.i.u.d, .pointer e.i.u.p, .int .i64 e.i.v.n, .int .i64 e.i.v.d, .pointer e.i.v.p, .bool e.i.nl, .bool e.i.nh], .agg #[.int .i64 v.x.n, .int .i64 v.x.d, .pointer v.x.p, .int .i64 v.y.n, .int .i64 v.y.d, .pointer v.y.p, .int .i64 v.z.n, .int .i64 v.z.d, .pointer v.z.p]] w (fun x w' => x = .returned (.int .i64 s) ∧ Below w.heap.size w w') := by rw [← hv.out]; exact T9
variable {c : Nat → Int} {fu i j : Nat}
theorem Qk7 (h : ¬ i < j) : bs c fu i j = i := by
 cases fu with
 | zero => rfl
 | succ n => unfold bs; rw [if_neg h]
theorem Qme (h : i < j) (hf : j - i ≤ fu) : ∃ fu', fu = fu' + 1 ∧ bs c fu i j = if c ((i + j) / 2) < 0 then bs c fu' ((i + j) / 2 + 1) j else bs c fu' i ((i + j) / 2) := by
 cases fu with
 | zero => omega
 | succ n => exact ⟨n, rfl, by rw [bs, if_pos h]⟩
theorem Qgq {w0 : World} {a : Option Addr} {n c : Nat} {V : List GW} {C : List FQ} [hs : Sl w (.slice a n c) V.length (rowW V) w0] [hp : Cw w V C] [h1 : Lk w v m] (hV : V.length ≤ 900001) : Calls Tryz.prog 217 #[.slice a n c, .agg #[.int .i64 v.x.n, .int .i64 v.x.d, .pointer v.x.p, .int .i64 v.y.n, .int .i64 v.y.d, .pointer v.y.p, .int .i64 v.z.n, .int .i64 v.z.d, .pointer v.z.p], .func (.func 218) #[] #[]] w (fun x w' => (∃ o, x = .returned (.tuple #[.int .i64 (spot C m : Int), .bool o])) ∧ Below w.heap.size w w') := by
 obtain rfl := hs.len; have hlen := Lib.hid hp.len; obtain ⟨R, hR⟩ : ∃ x, spot C m = x := ⟨_, rfl⟩; rw [hR]
 have hR2 : Hid (R = bs (fun i => Fv (sd C i).l.dir m.dir) V.length 0 V.length) := Lib.hid (by rw [← hR, hlen.out]; rfl)
 have hRle : R ≤ V.length := by rw [hR2.out]; exact Yq (by omega)
 clear hR; go_enter Tryz.func217, Tryz.ntmps217; go_wp2_with fail
 go_loopw [9, 10] (fun x y wr => ∃ (i j fu : Nat), x = .int .i64 (i : Int) ∧ y = .int .i64 (j : Int) ∧ i ≤ j ∧ j ≤ V.length ∧ j - i ≤ fu ∧ Hid (R = bs (fun i => Fv (sd C i).l.dir m.dir) fu i j) ∧ Bx wr w.heap.size 161 [.int .i64 v.x.n, .int .i64 v.x.d, .pointer v.x.p, .int .i64 v.y.n, .int .i64 v.y.d, .pointer v.y.p, .int .i64 v.z.n, .int .i64 v.z.d, .pointer v.z.p] ∧ Kp w wr) (fun x y _ => (intOf y).toNat - (intOf x).toNat)
 case atStart => exact ⟨0, V.length, V.length, rfl, rfl, by omega, by omega, by omega, hR2, ii, ii⟩
 case round =>
  obtain ⟨i, j, fu, rfl, rfl, hij, hj, hfu, hE, i1, i5⟩ := hrel; have kw := Kp1.mk i5.out; clear hR2
  by_cases hlt : i < j
  ·obtain ⟨g, rfl, hA⟩ := hs.form (by omega); have hlt' : (i : Int) < (j : Int) := (by omega); obtain ⟨q, hq⟩ : ∃ q, (i + j) / 2 = q := ⟨_, rfl⟩; obtain ⟨fu', rfl, hE2⟩ := Qme (c := fun i => Fv (sd C i).l.dir m.dir) hlt hfu; rw [hq] at hE2
   have hE3 := hE2 ▸ hE.out
   clear hE hE2; have hqV : q < V.length := (by omega); have lq : LtN q V.length := ⟨hqV⟩; have hqV' : (q : Int) < (V.length : Int) := (by omega)
   have ew1 : IntKind.i64.wrap ((i : Int) + (j : Int)) = (i : Int) + (j : Int) := Ap (by omega) (by omega)
   obtain ⟨s, hsv⟩ : ∃ s, Fv (sd C q).l.dir m.dir = s := ⟨_, rfl⟩; have HS := Lib.hid hsv; rw [hsv] at hE3; clear hsv; have hqi : ((i : Int) + (j : Int)) / 2 = (q : Int) := (by omega)
   have ew2 : IntKind.i64.wrap ((q : Int) + 1) = (q : Int) + 1 := Ap (by omega) (by omega)
   by_cases hs0 : s < 0
   ·have hsd : decide (s < 0) = true := decide_eq_true hs0
    rw [if_pos hs0] at hE3
    go_upto_region 5 with fail
    refine rgn [] [] fun hH => ?_; refine tk 0 hH ?_; refine tk 1 hH ?_; refine tk 2 hH ?_; refine tk 3 hH ?_; refine tk 4 hH ?_ (hy := fun wx hSw => by have hSx := Ex1.mk hSw; exact Qs rfl rfl (C6 (k := q) hqV)); refine tk 5 hH (st 6 fun K hK => ?_); go_simp; refine Aa (Z3 HS) ?_; intros; refine hd hK fun hH => ?_; refine tk 7 hH (dn ?_); clear hH; go_wp2_with fail
    go_roundw
    case rel => exact ⟨q + 1, j, fu', by go_num, rfl, by omega, hj, by omega, Lib.hid hE3, ii, ii⟩
    case measure => simp [intOf]; omega
   ·have hsd : decide (s < 0) = false := decide_eq_false hs0
    rw [if_neg hs0] at hE3
    go_upto_region 5 with fail
    refine rgn [] [] fun hH => ?_; refine tk 0 hH ?_; refine tk 1 hH ?_; refine tk 2 hH ?_; refine tk 3 hH ?_; refine tk 4 hH ?_ (hy := fun wx hSw => by have hSx := Ex1.mk hSw; exact Qs rfl rfl (C6 (k := q) hqV)); refine tk 5 hH (st 6 fun K hK => ?_); go_simp; refine Aa (Z3 HS) ?_; intros; refine hd hK fun hH => ?_; refine tk 7 hH (dn ?_); clear hH; go_wp2_with fail
    go_roundw
    case rel => exact ⟨i, q, fu', rfl, rfl, by omega, by omega, by omega, Lib.hid hE3, ii, ii⟩
    case measure => simp [intOf]; omega
  ·have hRi : R = i := by rw [hE.out, Qk7 hlt]
   subst hRi; have lt0 : ¬ (R : Int) < (j : Int) := (by omega)
   by_cases hRV : R < V.length
   ·obtain ⟨g, rfl, hA⟩ := hs.form (by omega); have lq : LtN R V.length := ⟨hRV⟩; have hRV' : (R : Int) < (V.length : Int) := (by omega); go_wp2_with fail; refine rgn [] [] fun hH => ?_; refine tk 0 hH ?_; refine tk 1 hH ?_; refine tk 2 hH ?_; refine tk 3 hH ?_; refine tk 4 hH ?_; refine tk 5 hH ?_; refine tk 6 hH ?_; refine tk 7 hH ?_; refine tk 8 hH ?_; refine tk 9 hH ?_ (hy := fun wx hSw => by have hSx := Ex1.mk hSw; exact Qs rfl rfl (C6 (k := R) hRV)); refine tk 10 hH (st 11 fun K hK => ?_); go_simp; refine Aa (T9) ?_; intros; refine hd hK fun hH => ?_; refine tk 12 hH ?_; refine tk 13 hH ?_; refine tk 14 hH ?_; refine tk 15 hH (dn ?_); clear hH; go_wp2_with fail; go_ret2; exact ⟨⟨_, rfl⟩, (ii : Kp w _).out⟩
   ·have hRV' : ¬ (R : Int) < (V.length : Int) := by omega
    go_wp2_with fail; refine rgn [] [] fun hH => ?_; refine tk 0 hH ?_; refine tk 1 hH ?_; refine tk 2 hH ?_; refine tk 3 hH ?_; refine tk 4 hH ?_; refine tkU 5 hH ?_; refine tkU 6 hH ?_; refine tkU 7 hH ?_; refine tkU 8 hH ?_; refine tkU 9 hH ?_; refine tkU 10 hH ?_; refine tkU 11 hH ?_; refine tkU 12 hH ?_; refine tk 13 hH ?_; refine tk 14 hH ?_; refine tk 15 hH (dn ?_); clear hH; go_wp2_with fail; go_ret2; exact ⟨⟨_, rfl⟩, (ii : Kp w _).out⟩
end
section
open Go.RowKit Cel
variable {W : World} {Z l : List Value} {b i : Nat} {t : TypeId}
theorem Zj (h : Bx W b t l) : W.shape? b = some (t, l.length) := by simp [World.shape?, h.out]
theorem Wd {j : Nat} (h : Bx W b t l) : W.frozen? ⟨b, j, none⟩ = false := by simp [World.frozen?, h.out]
variable {U : List GW}
theorem Yp (i : Nat) : (rowW U).take (i * 17) = rowW (U.take i) := by
 induction U generalizing i with
 | nil => simp [rowW]
 | cons e U ih =>
  cases i with
  | zero => simp [rowW]
  | succ i =>
   have h1 : rowW (e :: U) = e.c ++ rowW U := by simp [rowW]
   have h2 : rowW ((e :: U).take (i + 1)) = e.c ++ rowW (U.take i) := by simp [rowW]
   rw [h1, h2, List.take_append, GW.len, List.take_of_length_le (by rw [GW.len]; omega), ← ih]
   congr 2; omega
theorem Qgm (i : Nat) : (rowW U).drop (i * 17) = rowW (U.drop i) := by
 induction U generalizing i with
 | nil => simp [rowW]
 | cons e U ih =>
  cases i with
  | zero => simp [rowW]
  | succ i =>
   have h1 : rowW (e :: U) = e.c ++ rowW U := by simp [rowW]
   have h2 : rowW ((e :: U).drop (i + 1)) = rowW (U.drop i) := by simp
   rw [h1, h2, List.drop_append, GW.len, List.drop_eq_nil_of_le (by rw [GW.len]; omega), List.nil_append, ← ih]
   congr 1; omega
theorem Qdn (hi : i < U.length) (hZ : 17 ≤ Z.length) : (rowW U ++ Z).take ((i + 1) * 17) ++ rowW (U.drop i) ++ (rowW U ++ Z).drop ((i + 1) * 17 + (rowW (U.drop i)).length) = rowW (U.take (i + 1)) ++ (rowW (U.drop i) ++ Z.drop 17) := by
 have hl := Dj U
 have hd := Dj (U.drop i)
 rw [List.length_drop] at hd
 have e1 : (rowW U ++ Z).take ((i + 1) * 17) = rowW (U.take (i + 1)) := by rw [List.take_append_of_le_length (by omega), Yp]
 have e2 : (rowW U ++ Z).drop ((i + 1) * 17 + (rowW (U.drop i)).length) = Z.drop 17 := by
  rw [List.drop_append, List.drop_eq_nil_of_le (by omega), List.nil_append]
  congr 1; omega
 rw [e1, e2, List.append_assoc]
variable {e : GW}
theorem Qhk (hi : i < U.length) : (rowW (U.take (i + 1)) ++ (rowW (U.drop i) ++ Z)).take (i * 17) ++ e.c ++ (rowW (U.take (i + 1)) ++ (rowW (U.drop i) ++ Z)).drop (i * 17 + e.c.length) = rowW (U.take i ++ e :: U.drop i) ++ Z := by
 have hl : (rowW (U.take (i + 1))).length = (i + 1) * 17 := by rw [Dj, List.length_take]; congr 1; omega
 have e1 : (rowW (U.take (i + 1)) ++ (rowW (U.drop i) ++ Z)).take (i * 17) = rowW (U.take i) := by
  rw [List.take_append_of_le_length (by omega), Yp, List.take_take]
  congr 2; omega
 have e2 : (rowW (U.take (i + 1)) ++ (rowW (U.drop i) ++ Z)).drop (i * 17 + e.c.length) = rowW (U.drop i) ++ Z := by
  rw [GW.len, List.drop_append, List.drop_eq_nil_of_le (by omega), List.nil_append]
  have : i * 17 + 17 - (rowW (U.take (i + 1))).length = 0 := by omega
  rw [this]; rfl
 have e3 : rowW (U.take i ++ e :: U.drop i) = rowW (U.take i) ++ (e.c ++ rowW (U.drop i)) := by rw [Kf]; simp [rowW]
 rw [e1, e2, e3]; simp
def Qlh (w : World) (g cap : Nat) (U : List GW) (e : GW) (i : Nat) (x : Ending) (w' : World) : Prop := x = .returned (.slice (some ⟨g, 0, none⟩) (U.length + 1) cap) ∧ ∃ Z, Bx w' g 165 (rowW (U.take i ++ e :: U.drop i) ++ Z) ∧ w.grownBy w' (some g)
theorem Qi2 {w : World} {g cap : Nat} [hr : Bx w g 165 (rowW U ++ Z)] [hz : Ndl Z] [hb : Bx w b 165 [.int .i64 e.l.x.n, .int .i64 e.l.x.d, .pointer e.l.x.p, .int .i64 e.l.y.n, .int .i64 e.l.y.d, .pointer e.l.y.p, .int .i64 e.l.z.n, .int .i64 e.l.z.d, .pointer e.l.z.p, .int .i64 e.i.u.n, .int .i64 e.i.u.d, .pointer e.i.u.p, .int .i64 e.i.v.n, .int .i64 e.i.v.d, .pointer e.i.v.p, .bool e.i.nl, .bool e.i.nh]] (hne : b ≠ g) (hl : (rowW U ++ Z).length = cap * 17) (hroom : U.length + 1 ≤ cap) (hcap : cap ≤ 1000000) (hi : i ≤ U.length) :
  Calls Tryz.prog 220 #[.slice (some ⟨g, 0, none⟩) U.length cap, .int .i64 (i : Int), .slice (some ⟨b, 0, none⟩) 1 1] w (Qlh w g cap U e i) := by
 have hU := Dj U
 have hZ : 17 ≤ Z.length := by rw [List.length_append] at hl; omega
 have n1 : NeN b g := ⟨hne⟩
 have n2 : NeN g b := ⟨fun h => hne h.symm⟩
 have hc1 : ¬ (cap = i) := (by omega)
 by_cases hiU : i = U.length
 ·subst hiU; have hb3 : (U.length : Int) ≤ (U.length : Int) := (by omega); go_enter Tryz.func220, Tryz.ntmps220
  go_wp2_with (first
   | (at_builtin; go_loud (refine R2 rfl (.tmp 23) (.tmp 24) 221 108 Tryz.underlying221 Tryz.underlying108 rfl rfl rfl e rfl hl hroom ?_); intro w2 _ _ _))
  go_ret
  exact ⟨rfl, Z.drop 17, by rw [List.take_of_length_le (Nat.le_refl _), List.drop_of_length_le (Nat.le_refl _)]; exact ii, (ii : Gb w _ g).out⟩
 ·have hiU' : i < U.length := by omega
  have hb1 : ¬ ((i : Int) = (U.length : Int)) := (by omega); have hb2 : ¬ (cap = i + 1) := (by omega); have hb3 : (i : Int) ≤ (U.length : Int) := (by omega); have hb4 : (i : Int) + 1 ≤ (U.length : Int) + 1 := (by omega); have hb5 : (i : Int) ≤ (U.length : Int) + 1 := (by omega); have hb6 : (0 : Int) ≤ (i : Int) + 1 := (by omega)
  have ew1 : IntKind.i64.wrap ((i : Int) + 1) = (i : Int) + 1 := Ap (by omega) (by omega)
  have ew2 : IntKind.i64.wrap ((U.length : Int) + 1) = (U.length : Int) + 1 := Ap (by omega) (by omega)
  have hg1 : ¬ ((cap : Int) < (U.length : Int) + 1) := (by omega)
  have hov : ∀ lb cb, (callFunc 239 #[.slice (some ⟨b, 0, none⟩) 1 1, .slice (some ⟨g, (i + 1) * 17, none⟩) lb cb]).run Tryz.prog w = .ok (.value (.bool false)) w := fun lb cb => by
   rw [run_callFunc_extern Tryz.func239 (by kernel_rfl) (by kernel_rfl) (by kernel_rfl) (e := Extern.SlicesOverlaps.overlaps #[108, 108] #[4]) (by kernel_rfl),
    Lib.run_overlaps_apart w 108 4 165 Tryz.underlying108 17 (fun _ => by kernel_rfl) ⟨b, 0, none⟩ ⟨g, (i + 1) * 17, none⟩ 1 1 lb cb hne _ _ _ _ (Zj hb) (Zj hr) (by rw [hl]; omega) (Wd hb) (Wd hb)]
   rfl
  go_enter Tryz.func220, Tryz.ntmps220
  go_wp2_with (simp only [hov])
  refine rgn [g] [] fun hH => ?_; refine tk 0 hH ?_; refine tk 1 hH ?_; refine tk 2 hH ?_; refine tk 3 hH ?_; refine tk 4 hH ?_; refine tk 5 hH ?_; refine tk 6 hH ?_; refine tk 7 hH (st 8 fun K hK => ?_)
  try rw [if_pos (by rfl)]
  refine Yh (.tmp 73) (.tmp 76) 221 221 Tryz.underlying221 rfl (g := g) (off := (i + 1) * 17) (dLen := U.length - i) rfl (b := g) (boff := i * 17) (sLen := U.length + 1 - i) rfl (rowW (U.drop i)) ?_ ?_ ?_ (Hn _) _ (Qdn hiU' hZ) ?_
  ·intro j v hj; rw [← Qgm, List.getElem?_drop] at hj; rw [List.getElem?_append_left (by rcases Nat.lt_or_ge (i * 17 + j) (rowW U).length with h | h; exact h; rw [List.getElem?_eq_none h] at hj; cases hj)]; exact hj
  ·rw [Dj, List.length_drop]; simp only [Nat.min_def]; split <;> omega
  ·rw [Dj, List.length_drop, List.length_append]; omega
  intro w2 _ _; refine hd hK fun hH => dn ?_; clear hH
  go_wp2_with (first
   | (refine Qee rfl (.tmp 80) (.tmp 81) 221 108 Tryz.underlying221 rfl (g := g) (off := i * 17) (dLen := U.length + 1 - i) rfl (b := b) (boff := 0) (sLen := 1) rfl e.c ?c1 ?c2 ?c3 e.one _ (Qhk hiU') ?_; (case c1 => intro j v hj; rw [Nat.zero_add]; exact hj); (case c2 => simp only [Nat.min_def, GW.len]; split <;> omega); (case c3 => rw [GW.len, List.length_append, Dj, List.length_take]; omega); intro w3 _ _))
  go_ret; exact ⟨rfl, Z.drop 17, ii, (ii : Gb w _ g).out⟩
end
end Go.Proofs.YtpnpnlmlamfpmaaGreatDoor
