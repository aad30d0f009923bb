import Derived.Test.YtpnpnlmlamfpmaaGreatDoorS42
import Derived.Test.YtpnpnlmlamfpmaaGreatDoorS43
namespace Go.Proofs.YtpnpnlmlamfpmaaGreatDoor
set_option linter.unusedSimpArgs false
set_option linter.unusedVariables false
set_option maxHeartbeats 4000000
set_option maxRecDepth 100000
set_option synthInstance.maxHeartbeats 1000000
set_option synthInstance.maxSize 100000
section
open Go.RowKit Cel
def Fin (C : List FQ) : Prop := (∀ f ∈ C, f.v.nl = false ∧ f.v.nh = false) ∧ 0 < C.length ∧ C.length ≤ 900
variable {a : Option Addr} {c n : Nat} {w w0 : World}
theorem Qlo {V : List GW} {C : List FQ} [hs : Sl w (.slice a n c) V.length (rowW V) w0] [hp : Cw w V C] (hf : Fin C) : Calls Tryz.prog 152 #[.slice a n c] w (fun e w' => e = .returned (.bool true) ∧ Below w.heap.size w w') := by
 obtain rfl := hs.len; have hlen := Lib.hid hp.len
 have h9 : V.length ≤ 900 := by have := hf.2.2; rw [← hlen.out] at this; exact this
 have h0 : (0 : Int) < V.length := by have := hf.2.1; rw [← hlen.out] at this; omega
 go_enter Tryz.func152, Tryz.ntmps152; go_wp2_with fail
 go_loopw [7] (fun i wr => ∃ (q : Nat), i = .int .i64 (q : Int) ∧ q ≤ V.length ∧ Kp w wr) (fun i _ => V.length - (intOf i).toNat)
 case atStart => exact ⟨0, rfl, by omega, ii⟩
 case round =>
  obtain ⟨q, rfl, hq, i5⟩ := hrel; have kw := Kp1.mk i5.out
  by_cases hlt : q < V.length
  ·obtain ⟨g, rfl, hA⟩ := hs.form (by omega); have hlt' : (q : Int) < V.length := (by omega); have lq : LtN q V.length := ⟨hlt⟩
   have ew : IntKind.i64.wrap ((q : Int) + 1) = (q : Int) + 1 := Ap (by omega) (by omega)
   have hqC : q < C.length := by have := hlen.out; omega
   have hfq := hf.1 (sd C q) (by rw [Bz hqC]; exact List.getElem_mem hqC)
   have hi := (hp.f q hlt).i
   have n1 : (wV V q).i.nl = false := hi.nl.trans hfq.1
   have n2 : (wV V q).i.nh = false := hi.nh.trans hfq.2
   clear hi
   go_wp2_with (first
    | (with_reducible refine A0 (t := 165) (x := .tmp 9) rfl rfl rfl (C6 (k := q) hlt) ?_))
   go_roundw
   case rel => exact ⟨q + 1, by go_num, by omega, ii⟩
   case measure => simp [intOf]; omega
  ·obtain rfl : q = V.length := by omega
   have hd0 : decide (0 < V.length) = true := decide_eq_true (by omega)
   go_wp2_with fail; go_ret; exact E.fin rfl
variable {C L : List (List FQ)}
theorem Qi5 {w1 : World} {U : List ZW} [hs : Sl w (.slice a n c) U.length (Co U) w0] [hp : Cs w U L w1] (hf : ∀ C ∈ L, Fin C) (hU : U.length ≤ 65537) : Calls Tryz.prog 109 #[.slice a n c] w (fun e w' => e = .returned (.bool true) ∧ Below w.heap.size w w') := by
 obtain rfl := hs.len; have hlen := Lib.hid hp.len; go_enter Tryz.func109, Tryz.ntmps109; go_wp2_with fail
 go_loopw [7] (fun i wr => ∃ (q : Nat), i = .int .i64 (q : Int) ∧ q ≤ U.length ∧ Kp w wr) (fun i _ => U.length - (intOf i).toNat)
 case atStart => exact ⟨0, rfl, by omega, ii⟩
 case round =>
  obtain ⟨q, rfl, hq, i5⟩ := hrel; have kw := Kp1.mk i5.out
  by_cases hlt : q < U.length
  ·obtain ⟨g, rfl, hA⟩ := hs.form (by omega); have hlt' : (q : Int) < U.length := (by omega); have lq : LtN q U.length := ⟨hlt⟩
   have ew : IntKind.i64.wrap ((q : Int) + 1) = (q : Int) + 1 := Ap (by omega) (by omega)
   have hqC : q < L.length := by have := hlen.out; omega
   have hfq := Lib.hid (hf (cq L q) (by rw [M6 hqC]; exact List.getElem_mem hqC))
   go_wp2_with (first
    | (go_at_call 152; go_loud (with_reducible refine Aa (Qlo (V := (zw U q).V) hfq.out) ?_); intros))
   go_roundw
   case rel => exact ⟨q + 1, by go_num, by omega, ii⟩
   case measure => simp [intOf]; omega
  ·obtain rfl : q = U.length := by omega
   go_wp2_with fail; go_ret; exact E.fin rfl
def CsE (w : World) (L : List (List FQ)) (e : Ending) (w' : World) : Prop := ∃ (a : Option Addr) (c : Nat) (U : List ZW), e = .returned (.tuple #[.slice a U.length c, .nilIface]) ∧ Sl w' (.slice a U.length c) U.length (Co U) w' ∧ Cs w' U L w' ∧ Below w.heap.size w w'
theorem Vy {P' : Program} {f : FuncId} {args : Array Value} {K : Ending → World → Prop} (h : Calls P' f args w (CsE w L))
  (hK : ∀ w' [Kp1 w w'] (a : Option Addr) (c : Nat) (U : List ZW) [Sl w' (.slice a U.length c) U.length (Co U) w'] [Cs w' U L w'], K (.returned (.tuple #[.slice a U.length c, .nilIface])) w') : Calls P' f args w K := by
 refine h.mono ?_
 rintro e w' ⟨a, c, U, rfl, h1, h2, h3⟩
 exact @hK w' ⟨h3⟩ a c U h1 h2
variable {V : List NW} {t : Tr}
theorem Qkw [hs : Sl w (.slice a n c) V.length (rowN V) w0] [hn : Cn w V (A4 t 0)] (hV : t.size ≤ 65536) (hl : ∀ l ∈ t.lines, ShL l) (hdp : t.depth ≤ 1024) (hC : Hid (ins (pts t []) = C)) :
  Calls Tryz.prog 108 #[.agg #[.int .i64 (code t 0), .slice a n c]] w (CsE w C) := by
 obtain rfl := hs.len; have hc : ¬ ((1024 : Int) < (t.depth : Int)) := (by omega); go_enter Tryz.func108, Tryz.ntmps108
 go_wp2_with (first
  | (go_at_call 46; go_loud (with_reducible refine Na (Lv (V := V) hV hl) ?_); intro w5 _ b5 k5)
  | (go_at_call 150; (with_reducible refine Aa (Ut (by omega)) ?_); intros)
  | (go_at_call 151; go_loud (with_reducible refine Qkf (Qg4 (by omega) hV hC) ?_); intro w7 _ a7 c7 U7 s7 p7))
 go_ret2; exact ⟨a7, c7, U7, rfl, ii, Cs.here ii, (ii : Kp w _).out⟩
theorem Qei [hs : Sl w (.slice a n c) V.length (rowN V) w0] [hn : Cn w V (A4 t 0)] (hV : t.size ≤ 65536) (hl : ∀ l ∈ t.lines, ShL l) (hdp : t.depth ≤ 1024) (hC : Hid (ins (pts t []) = C)) (hf : ∀ D ∈ C, Fin D) (hC9 : C.length ≤ 65537) :
  Calls Tryz.prog 68 #[.agg #[.int .i64 (code t 0), .slice a n c]] w (CsE w C) := by
 obtain rfl := hs.len; go_enter Tryz.func68, Tryz.ntmps68
 go_wp2_with (first
  | (go_at_call 108; go_loud (with_reducible refine Vy (Qkw (V := V) hV hl hdp hC) ?_); intro w7 _ a7 c7 U7 s7 p7; have q7 := Lib.hid p7.len)
  | (go_at_call 109; go_loud (with_reducible refine Aa (Qi5 (U := U7) hf (by rw [q7.out]; exact hC9)) ?_); intros))
 go_ret2; exact ⟨a7, c7, U7, rfl, (ii : Sl _ _ _ _ w7).here, Cs.here ii, (ii : Kp w _).out⟩
end
section
open Go.RowKit Cel
attribute [local go_sem] Oper.semAt_some
def WdQ (q : Rat) : Prop := q.num.natAbs < 4611686018427387904 ∧ q.den < 4611686018427387904
variable {q : Rat}
instance  : Decidable (WdQ q) := inferInstanceAs (Decidable (_ ∧ _))
def Ad (p : Rat × Rat) : FV := ⟨p.1.num, (p.1.den : Int) - 1, none, p.2.num, (p.2.den : Int) - 1, none⟩
def crL (q : Rat) : List Value := [.int .i64 q.num, .int .i64 ((q.den : Int) - 1), .pointer none]
variable {A B W : World}
theorem CF.ofSm (h : WdQ q) : CF W (.agg #[.int .i64 q.num, .int .i64 ((q.den : Int) - 1), .pointer none]) q 2 :=
 CF.small rfl (by omega) (by have := h.1; omega) (by have := h.1; omega) (by have := h.2; omega) (Nat.le_refl _)
structure SmC (C : List FQ) : Prop where
 turn : Sv C
 len : C.length ≤ 900
 pts : ∀ i, i < C.length → WdQ (pg (verts C) i).1 ∧ WdQ (pg (verts C) i).2
 crs : ∀ i, i < C.length → WdQ (crs (pg (verts C) i) (pg (verts C) ((i + 1) % C.length)))
theorem PsF.lits {V : List FV} {L : List (Rat × Rat)} {k : Nat} (h : PsF W V L k) (s : ∀ i, i < L.length → WdQ (pg L i).1 ∧ WdQ (pg L i).2) : V = L.map Ad := by
 refine List.ext_getElem (by simp [h.len]) fun i h1 h2 => ?_
 have hi : i < L.length := by simpa using h2
 have hx := (h.x i h1).lit (s i hi).1
 have hy := (h.y i h1).lit (s i hi).2
 have e : fv V i = Ad (pg L i) := by
  cases hv : fv V i
  rw [hv] at hx hy; obtain ⟨rfl, rfl, rfl⟩ := hx; obtain ⟨rfl, rfl, rfl⟩ := hy; rfl
 rw [G9 h1] at e; rw [e, List.getElem_map, Aw hi]
structure Kb (bs : Nat) (A B : World) : Prop where
 size : A.heap.size ≤ B.heap.size
 cell : ∀ (a : Addr) (v : Value), a.block ≠ bs → A.cell? a = some v → B.cell? a = some v
theorem Kb.refl {bs : Nat} : Kb bs A A := ⟨Nat.le_refl _, fun _ _ _ h => h⟩
theorem Kb.trans {bs : Nat} {C : World} (h : Kb bs A B) (k : Kb bs B C) : Kb bs A C := ⟨Nat.le_trans h.size k.size, fun a v n e => k.cell a v n (h.cell a v n e)⟩
variable {a : Addr}
theorem Qbu {v : Value} (h : A.cell? a = some v) : a.block < A.heap.size := by
 rcases Nat.lt_or_ge a.block A.heap.size with h1 | h1
 ·exact h1
 ·simp [World.cell?, Array.getElem?_eq_none h1] at h
theorem R9 (h : B.heap[a.block]? = A.heap[a.block]?) : B.cell? a = A.cell? a := by unfold World.cell?; rw [h]
theorem Kb.of {bs : Nat} (h : Kp A B) : Kb bs A B := ⟨h.out.size, fun a v _ e => by rw [R9 (h.out.block _ (Qbu e))]; exact e⟩
theorem Kb.put {bs : Nat} {w : World} (W : World) (l : Nat) (o o' : Obj) (hl : w.heap.size ≤ l) (h : W.heap[l]? = some o) (h2 : o.isCells = false) (_ : o.isWalk = false) : Kb bs W (W.putObj l o') := by
 refine ⟨by simp [World.putObj], fun a v _ e => ?_⟩
 have hne : l ≠ a.block := fun e1 => by
  subst e1; simp only [World.cell?, h] at e
  cases o <;> first | exact Bool.noConfusion h2 | (simp at e; done)
 rw [R9 (by simp only [World.putObj, Array.getElem?_setIfInBounds]; rw [if_neg hne])]; exact e
theorem Kb.at' {bs g : Nat} {wz : World} {xs : List Value} (h : Kb bs A B) (k : At A g xs wz) (n : g ≠ bs) : At B g xs wz := ⟨fun j u hu => h.cell _ _ n (k.out j u hu), k.lt, Nat.lt_of_lt_of_le k.ltW h.size⟩
def O5 (C : List FQ) (i : Nat) : List Value := (Ad (pg (verts C) i)).l ++ (Ad (pg (verts C) ((i + 1) % C.length))).l
def crC (C : List FQ) (i : Nat) : Rat := crs (pg (verts C) i) (pg (verts C) ((i + 1) % C.length))
def Js (C : List FQ) (i : _root_.Fin C.length) : Array Value := #[.agg (O5 C i.val).toArray, .agg (crL (crC C i.val)).toArray]
theorem inW {n : Nat} {P : Program} {f : FuncId} {args : Array Value} {K : Ending → World → Prop} (h : Calls P f args W K) : CallsIn Fence.wide n P f args W K := callsIn_wide.2 h
theorem Qd6 (n : Nat) (hn : 1 ≤ n) (l Br gU cU bs : Nat) (U : List ZW) (C : List FQ) (hU : U.length = 1) (hC : SmC C) (hF : 0 < C.length) (wz : World) (J Jx : List (_root_.Fin C.length) → World → Prop) (W : World) (hbs : bs < W.heap.size) (hJ : AbidesFrom W.heap.size J)
  (hY : ∀ pre x W1, J pre W1 → pre.length < C.length → YieldAt Fence.wide (n - 1) Tryz.prog l (Js C x) W1 fun e W' =>
   (e = .returned (.bool true) ∧ J (pre ++ [x]) W' ∧ Kb bs W1 W') ∨ (e = .returned (.bool false) ∧ Jx (pre ++ [x]) W'))
  [hB : Bx W Br 141 [.slice (some ⟨gU, 0, none⟩) U.length cU]] [hA : At W gU (Co U) wz] [hp : Cs W U [C] wz] (h0 : J [] W) :
  CallsIn Fence.wide n Tryz.prog 153 #[.func (.yield l) #[] #[], .pointer (some ⟨Br, 0, none⟩)] W fun e W' => (∃ v, e = .returned v) ∧
   ((∃ ys, ys = List.finRange C.length ∧ J ys W') ∨ (∃ pre, pre <+: List.finRange C.length ∧ Jx pre W')) := by
 have hmx : Tryz.prog.follows .mixedOrders = true := by kernel_rfl
 have hUh := Lib.hid hU
 have l0 : LtN 0 U.length := ⟨by omega⟩
 have hU1 : (0 : Int) < U.length := (by omega); have hU2 : ¬ ((1 : Int) < U.length) := (by omega); have hU3 : 0 < U.length := (by omega); have hU4 : ¬ (1 < U.length) := (by omega)
 refine callsIn_of_wp Tryz.func153 rfl trivial ?_ rfl
 simp only [Tryz.ntmps153, List.size_toArray, List.length_cons, List.length_nil, Nat.reduceAdd, Nat.reduceSub, Array.replicate_succ, Array.replicate_zero, List.push_toArray, List.append_toArray, List.nil_append, List.cons_append]; clear hU
 gi_wp2
 gi_loopw [11] (fun i wr => (i = .int .i64 0 ∧ Kp W wr ∧ J [] wr) ∨ (i = .int .i64 1 ∧ J (List.finRange C.length) wr)) (fun i _ => 1 - (intOf i).toNat)
 case atStart => exact .inl ⟨rfl, ii, h0⟩
 case round =>
  rcases hrel with ⟨rfl, k1, hJs⟩ | ⟨rfl, hJs⟩
  ·have kw := Kp1.mk k1.out
   have c0 : Cw wr (zw U 0).V C := (ii : Cs wr U [C] wz).p 0 l0.out
   gi_wp2_with (first
    | (refine ⟨trivial, ?_⟩; gi_at_call 154; go_loud (refine inW ?_; refine Qmn (Qh6 (V := (zw U 0).V) (C := C) hC.turn hC.len) ?_); intro w5 _ a5 c5 V5 s5 p5 o5))
   have kw5 : Kp W w5 := ii
   have hv5 := Lib.hid (p5.lits (fun i hi => hC.pts i (by rwa [Gu] at hi)))
   have hl5 : V5.length = C.length := by rw [p5.len, Gu]
   have hl9 := hC.len
   obtain ⟨g5, e5, hA5⟩ := s5.form (by omega); subst e5
   have hg5 : g5 ≠ bs := fun e => by have h1 := o5.out g5 rfl; have h2 := k1.out.size; omega
   have hJ5 := hJ _ _ w5 none hJs (Fu (ii : Kp wr w5).out) (fun r e => by cases e)
   have HL := Lib.hid hl5; have hl9V : V5.length ≤ 900 := (by omega); clear hJs s5 p5 o5 c0 hB hA hp hl5
   gi_loopw [19] (fun j wx => ∃ q : Nat, q ≤ C.length ∧ j = .int .i64 (q : Int) ∧ J ((List.finRange C.length).take q) wx ∧ Kb bs w5 wx) (fun j _ => C.length - (intOf j).toNat)
   case atStart => exact ⟨0, Nat.zero_le _, rfl, by simpa using hJ5, Kb.refl⟩
   case round =>
    obtain ⟨q, hq, rfl, hJq, hnx⟩ := hrel
    by_cases hlt : q < C.length
    ·have hltV : q < V5.length := by have := HL.out; omega
     have hlt' : (q : Int) < V5.length := (by omega)
     have hA6 := hnx.at' hA5 hg5
     have ew : IntKind.i64.wrap ((q : Int) + 1) = (q : Int) + 1 := Ap (by omega) (by omega)
     obtain ⟨m, hm0⟩ : ∃ m, (q + 1) % C.length = m := ⟨_, rfl⟩
     have hmC : m < C.length := by rw [← hm0]; exact Nat.mod_lt _ (by omega)
     have hm : m < V5.length := by have := HL.out; omega
     have hm' : (m : Int) < V5.length := (by omega)
     have er : ((q : Int) + 1).tmod (V5.length : Int) = (m : Int) := by
      rw [HL.out, ← hm0, show (q : Int) + 1 = ((q + 1 : Nat) : Int) by omega]; exact (Int.ofNat_tmod _ _).symm
     have fq : fv V5 q = Ad (pg (verts C) q) := by
      rw [G9 hltV, getElem_congr_coll hv5.out]; simp [Aw (show q < (verts C).length by rw [Gu]; exact hlt)]
     have fm : fv V5 m = Ad (pg (verts C) m) := by
      rw [G9 hm, getElem_congr_coll hv5.out]; simp [Aw (show m < (verts C).length by rw [Gu]; exact hmC)]
     have HM := Lib.hid hm0; clear hm0; have hz : ¬ ((V5.length : Int) = 0) := (by omega); have hz2 : ¬ (V5.length = 0) := (by omega)
     gi_wp2
     refine nmreg (fun W4 => Kp wr W4 ∧ Bx W4 wr.heap.size 98 [.int .i64 (Ad (pg (verts C) q)).nx, .int .i64 (Ad (pg (verts C) q)).dx, .pointer (Ad (pg (verts C) q)).px, .int .i64 (Ad (pg (verts C) q)).ny, .int .i64 (Ad (pg (verts C) q)).dy, .pointer (Ad (pg (verts C) q)).py] ∧ Bx W4 (wr.heap.size + 1) 98 [.int .i64 (Ad (pg (verts C) m)).nx, .int .i64 (Ad (pg (verts C) m)).dx, .pointer (Ad (pg (verts C) m)).px, .int .i64 (Ad (pg (verts C) m)).ny, .int .i64 (Ad (pg (verts C) m)).dy, .pointer (Ad (pg (verts C) m)).py]) ⟨ii, Bx.re rfl, Bx.re rfl⟩ ?_
     intro W4 ⟨k41, k42, k43⟩
     have k44 := Kp1.mk k41.out
     have cx : ∀ W : World, CF W (.agg #[.int .i64 (Ad (pg (verts C) q)).nx, .int .i64 (Ad (pg (verts C) q)).dx, .pointer (Ad (pg (verts C) q)).px]) (pg (verts C) q).1 2 := fun W => CF.ofSm (hC.pts q hlt).1
     have cy : ∀ W : World, CF W (.agg #[.int .i64 (Ad (pg (verts C) q)).ny, .int .i64 (Ad (pg (verts C) q)).dy, .pointer (Ad (pg (verts C) q)).py]) (pg (verts C) q).2 2 := fun W => CF.ofSm (hC.pts q hlt).2
     have cx2 : ∀ W : World, CF W (.agg #[.int .i64 (Ad (pg (verts C) m)).nx, .int .i64 (Ad (pg (verts C) m)).dx, .pointer (Ad (pg (verts C) m)).px]) (pg (verts C) m).1 2 := fun W => CF.ofSm (hC.pts m hmC).1
     have cy2 : ∀ W : World, CF W (.agg #[.int .i64 (Ad (pg (verts C) m)).ny, .int .i64 (Ad (pg (verts C) m)).dy, .pointer (Ad (pg (verts C) m)).py]) (pg (verts C) m).2 2 := fun W => CF.ofSm (hC.pts m hmC).2
     have hcs : WdQ (crs (pg (verts C) q) (pg (verts C) m)) := by have := hC.crs q hlt; rw [HM.out] at this; exact this
     refine wpIn_region_any hmx ?_
     refine Qdk (S := fun W' => Kp W4 W') [(0, 32), (1, 33), (2, 34), (3, 35), (4, 36), (5, 37), (6, 38)] (fun i => match i with | 3 => [1, 2] | 6 => [4, 5] | _ => []) [C4 (.func (.yield l) #[] #[]), C4 (.agg #[.int .i64 (Ad (pg (verts C) q)).nx, .int .i64 (Ad (pg (verts C) q)).dx, .pointer (Ad (pg (verts C) q)).px, .int .i64 (Ad (pg (verts C) q)).ny, .int .i64 (Ad (pg (verts C) q)).dy, .pointer (Ad (pg (verts C) q)).py]), C4 (.agg #[.int .i64 (Ad (pg (verts C) m)).nx, .int .i64 (Ad (pg (verts C) m)).dx, .pointer (Ad (pg (verts C) m)).px, .int .i64 (Ad (pg (verts C) m)).ny, .int .i64 (Ad (pg (verts C) m)).dy, .pointer (Ad (pg (verts C) m)).py]), C4 (.agg #[.int .i64 (Ad (pg (verts C) q)).nx, .int .i64 (Ad (pg (verts C) q)).dx, .pointer (Ad (pg (verts C) q)).px, .int .i64 (Ad (pg (verts C) q)).ny, .int .i64 (Ad (pg (verts C) q)).dy, .pointer (Ad (pg (verts C) q)).py, .int .i64 (Ad (pg (verts C) m)).nx, .int .i64 (Ad (pg (verts C) m)).dx, .pointer (Ad (pg (verts C) m)).px, .int .i64 (Ad (pg (verts C) m)).ny, .int .i64 (Ad (pg (verts C) m)).dy, .pointer (Ad (pg (verts C) m)).py]), C4 (.agg #[.int .i64 (Ad (pg (verts C) q)).nx, .int .i64 (Ad (pg (verts C) q)).dx, .pointer (Ad (pg (verts C) q)).px, .int .i64 (Ad (pg (verts C) q)).ny, .int .i64 (Ad (pg (verts C) q)).dy, .pointer (Ad (pg (verts C) q)).py]), C4 (.agg #[.int .i64 (Ad (pg (verts C) m)).nx, .int .i64 (Ad (pg (verts C) m)).dx, .pointer (Ad (pg (verts C) m)).px, .int .i64 (Ad (pg (verts C) m)).ny, .int .i64 (Ad (pg (verts C) m)).dy, .pointer (Ad (pg (verts C) m)).py]), Bf (crs (pg (verts C) q) (pg (verts C) m)) 15] [] 2 (by rfl) (by decide +kernel) (by decide) (by decide) (by kernel_rfl) ?_ (fun W1 W2 hb hk => ⟨hk.out.trans (hb.mono hk.out.size)⟩) (ii : Kp W4 W4.drew) ?_ ?_
     ·exact fun i hi => nomatch hi
     ·intro i hi f W5 hSw hbw hp; have kw := Kp1.mk hbw; have kz := Kp1.mk hSw.out; simp only [List.map_cons, List.map_nil, List.mem_cons, List.not_mem_nil, or_false] at hi
      rcases hi with rfl | rfl | rfl | rfl | rfl | rfl | rfl
      ·refine ⟨_, by simp; rfl, fun K' hK => ?_⟩
       clear hp; simp only [Ai, Act.put, sA, sB, sC] at hK ⊢
       generalize f 0 = v0, f 1 = v1, f 2 = v2, f 3 = v3, f 4 = v4, f 5 = v5, f 6 = v6 at *
       go_simp
       refine hK.out _ _ _ rfl (ii : Kp W5 _).out ?_ ?_
       ·exact rfl
       ·exact fun h => absurd h (by decide)
      ·refine ⟨_, by simp; rfl, fun K' hK => ?_⟩
       clear hp; simp only [Ai, Act.put, sA, sB, sC] at hK ⊢
       generalize f 0 = v0, f 1 = v1, f 2 = v2, f 3 = v3, f 4 = v4, f 5 = v5, f 6 = v6 at *
       go_simp
       refine hK.out _ _ _ rfl (ii : Kp W5 _).out ?_ ?_
       ·exact rfl
       ·exact fun h => absurd h (by decide)
      ·refine ⟨_, by simp; rfl, fun K' hK => ?_⟩
       clear hp; simp only [Ai, Act.put, sA, sB, sC] at hK ⊢
       generalize f 0 = v0, f 1 = v1, f 2 = v2, f 3 = v3, f 4 = v4, f 5 = v5, f 6 = v6 at *
       go_simp
       refine hK.out _ _ _ rfl (ii : Kp W5 _).out ?_ ?_
       ·exact rfl
       ·exact fun h => absurd h (by decide)
      ·have h1 : C4 (.agg #[.int .i64 (Ad (pg (verts C) q)).nx, .int .i64 (Ad (pg (verts C) q)).dx, .pointer (Ad (pg (verts C) q)).px, .int .i64 (Ad (pg (verts C) q)).ny, .int .i64 (Ad (pg (verts C) q)).dy, .pointer (Ad (pg (verts C) q)).py]) (f 1) W5 := hp 1 (by decide)
       have h2 : C4 (.agg #[.int .i64 (Ad (pg (verts C) m)).nx, .int .i64 (Ad (pg (verts C) m)).dx, .pointer (Ad (pg (verts C) m)).px, .int .i64 (Ad (pg (verts C) m)).ny, .int .i64 (Ad (pg (verts C) m)).dy, .pointer (Ad (pg (verts C) m)).py]) (f 2) W5 := hp 2 (by decide)
       refine ⟨_, by simp; rfl, fun K' hK => ?_⟩
       clear hp; simp only [Ai, Act.put, sA, sB, sC] at hK ⊢
       generalize f 0 = v0, f 1 = v1, f 2 = v2, f 3 = v3, f 4 = v4, f 5 = v5, f 6 = v6 at *
       obtain rfl := h1; obtain rfl := h2; go_simp
       refine hK.out _ _ _ rfl (ii : Kp W5 _).out ?_ ?_
       ·exact rfl
       ·exact fun h => absurd h (by decide)
      ·refine ⟨_, by simp; rfl, fun K' hK => ?_⟩
       clear hp; simp only [Ai, Act.put, sA, sB, sC] at hK ⊢
       generalize f 0 = v0, f 1 = v1, f 2 = v2, f 3 = v3, f 4 = v4, f 5 = v5, f 6 = v6 at *
       go_simp
       refine hK.out _ _ _ rfl (ii : Kp W5 _).out ?_ ?_
       ·exact rfl
       ·exact fun h => absurd h (by decide)
      ·refine ⟨_, by simp; rfl, fun K' hK => ?_⟩
       clear hp; simp only [Ai, Act.put, sA, sB, sC] at hK ⊢
       generalize f 0 = v0, f 1 = v1, f 2 = v2, f 3 = v3, f 4 = v4, f 5 = v5, f 6 = v6 at *
       go_simp
       refine hK.out _ _ _ rfl (ii : Kp W5 _).out ?_ ?_
       ·exact rfl
       ·exact fun h => absurd h (by decide)
      ·have h4 : C4 (.agg #[.int .i64 (Ad (pg (verts C) q)).nx, .int .i64 (Ad (pg (verts C) q)).dx, .pointer (Ad (pg (verts C) q)).px, .int .i64 (Ad (pg (verts C) q)).ny, .int .i64 (Ad (pg (verts C) q)).dy, .pointer (Ad (pg (verts C) q)).py]) (f 4) W5 := hp 4 (by decide)
       have h5 : C4 (.agg #[.int .i64 (Ad (pg (verts C) m)).nx, .int .i64 (Ad (pg (verts C) m)).dx, .pointer (Ad (pg (verts C) m)).px, .int .i64 (Ad (pg (verts C) m)).ny, .int .i64 (Ad (pg (verts C) m)).dy, .pointer (Ad (pg (verts C) m)).py]) (f 5) W5 := hp 5 (by decide)
       refine ⟨_, by simp; rfl, fun K' hK => ?_⟩
       clear hp; simp only [Ai, Act.put, sA, sB, sC] at hK ⊢
       generalize f 0 = v0, f 1 = v1, f 2 = v2, f 3 = v3, f 4 = v4, f 5 = v5, f 6 = v6 at *
       obtain rfl := h4; obtain rfl := h5; go_simp
       refine ⟨trivial, ?_⟩
       refine inW ?_
       refine Ab (Gt (by decide)) ?_; intros
       refine hK.out _ _ _ rfl (ii : Kp W5 _).out ?_ ?_
       ·exact Bf.fin rfl (by decide)
       ·exact fun h => absurd h (by decide)
     ·intro f W5 hSw hbw hf _; have kz := Kp1.mk hSw.out
      have h0 : C4 (.func (.yield l) #[] #[]) (f 0) W5 := hf 0 (by decide)
      have h1 : C4 (.agg #[.int .i64 (Ad (pg (verts C) q)).nx, .int .i64 (Ad (pg (verts C) q)).dx, .pointer (Ad (pg (verts C) q)).px, .int .i64 (Ad (pg (verts C) q)).ny, .int .i64 (Ad (pg (verts C) q)).dy, .pointer (Ad (pg (verts C) q)).py]) (f 1) W5 := hf 1 (by decide)
      have h2 : C4 (.agg #[.int .i64 (Ad (pg (verts C) m)).nx, .int .i64 (Ad (pg (verts C) m)).dx, .pointer (Ad (pg (verts C) m)).px, .int .i64 (Ad (pg (verts C) m)).ny, .int .i64 (Ad (pg (verts C) m)).dy, .pointer (Ad (pg (verts C) m)).py]) (f 2) W5 := hf 2 (by decide)
      have h3 : C4 (.agg #[.int .i64 (Ad (pg (verts C) q)).nx, .int .i64 (Ad (pg (verts C) q)).dx, .pointer (Ad (pg (verts C) q)).px, .int .i64 (Ad (pg (verts C) q)).ny, .int .i64 (Ad (pg (verts C) q)).dy, .pointer (Ad (pg (verts C) q)).py, .int .i64 (Ad (pg (verts C) m)).nx, .int .i64 (Ad (pg (verts C) m)).dx, .pointer (Ad (pg (verts C) m)).px, .int .i64 (Ad (pg (verts C) m)).ny, .int .i64 (Ad (pg (verts C) m)).dy, .pointer (Ad (pg (verts C) m)).py]) (f 3) W5 := hf 3 (by decide)
      have h4 : C4 (.agg #[.int .i64 (Ad (pg (verts C) q)).nx, .int .i64 (Ad (pg (verts C) q)).dx, .pointer (Ad (pg (verts C) q)).px, .int .i64 (Ad (pg (verts C) q)).ny, .int .i64 (Ad (pg (verts C) q)).dy, .pointer (Ad (pg (verts C) q)).py]) (f 4) W5 := hf 4 (by decide)
      have h5 : C4 (.agg #[.int .i64 (Ad (pg (verts C) m)).nx, .int .i64 (Ad (pg (verts C) m)).dx, .pointer (Ad (pg (verts C) m)).px, .int .i64 (Ad (pg (verts C) m)).ny, .int .i64 (Ad (pg (verts C) m)).dy, .pointer (Ad (pg (verts C) m)).py]) (f 5) W5 := hf 5 (by decide)
      have h6 : Bf (crs (pg (verts C) q) (pg (verts C) m)) 15 (f 6) W5 := hf 6 (by decide)
      clear hf; simp only [Ai, lset, List.map_cons, List.map_nil, Act.put, List.setIfInBounds_toArray, List.set_cons_zero, List.set_cons_succ]
      generalize f 0 = v0, f 1 = v1, f 2 = v2, f 3 = v3, f 4 = v4, f 5 = v5, f 6 = v6 at *
      obtain rfl := h0; obtain rfl := h1; obtain rfl := h2; obtain rfl := h3; obtain rfl := h4; obtain rfl := h5; obtain ⟨n6, d6, p6, rfl, i6⟩ := h6; obtain ⟨rfl, rfl, rfl⟩ := i6.lit hcs
      have hJ4 := hJ _ _ W5 none hJq (Fu (ii : Kp wr W5).out) (fun r e => by cases e)
      obtain ⟨fn, tmps, assign, body, hy, hR⟩ := hY _ ⟨q, hlt⟩ _ hJ4 (by simp; omega)
      have hR' := hR.mono (R' := fun e W' => ∃ b : Bool, e = .returned (.bool b) ∧ (b = true → J ((List.finRange C.length).take (q + 1)) W' ∧ Kb bs W5 W') ∧ (b = false → Jx ((List.finRange C.length).take (q + 1)) W')) (by
       rintro e W' (⟨h1, h2, h3⟩ | ⟨h1, h2⟩)
       ·exact ⟨true, h1, fun _ => ⟨(by rw [H7 hlt]; exact h2), h3⟩, fun h => (by cases h)⟩
       ·exact ⟨false, h1, fun h => (by cases h), fun _ => (by rw [H7 hlt]; exact h2)⟩)
      clear hR
      dsimp only [Js, O5, crL, crC, FV.l, List.cons_append, List.nil_append] at hy
      rw [HM.out] at hy
      refine wpAnyIn_ready (rs := [7]) (by kernel_rfl) (by simp) ?_
      refine AllReadyIn.cons rfl (fun K hK => ?_) AllReadyIn.nil
      go_simp
      refine hR'.mono ?_
      rintro e W6 ⟨b, rfl, hb1, hb2⟩
      refine hK _ _ ?_
      clear hK K
      refine wpAnyIn_ready (rs := [8]) (by kernel_rfl) (by simp) ?_
      refine AllReadyIn.cons rfl (fun K hK => ?_) AllReadyIn.nil
      go_simp
      refine hK _ _ ?_
      clear hK K
      refine wpAnyIn_done (by kernel_rfl) ?_ _
      cases b with
      | true =>
       obtain ⟨hJ6, hk6⟩ := hb1 rfl; clear hb1 hb2 hR' hy
       gi_wp2
       go_roundw
       case rel => exact ⟨q + 1, by omega, by go_num, hJ6, hnx.trans ((Kb.of (ii : Kp wr W5)).trans hk6)⟩
       case measure => simp [intOf]; omega
      | false =>
       have hx6 := hb2 rfl
       clear hb1 hb2 hR' hy
       gi_wp2
       refine bodyPost_ret (results_none rfl _ _ _) rfl ?_
       exact ⟨⟨_, rfl⟩, .inr ⟨_, List.take_prefix _ _, hx6⟩⟩
    ·obtain rfl : q = C.length := by omega
     rw [List.take_of_length_le (by simp)] at hJq
     have hn1 : ¬ ((C.length : Int) < V5.length) := by have := HL.out; omega
     have hn2 : ¬ (C.length < V5.length) := by have := HL.out; omega
     gi_wp2
     exact ⟨.inr ⟨rfl, hJq⟩, by simp [intOf]⟩
  ·gi_wp2
   go_end0
   exact ⟨⟨_, rfl⟩, .inl ⟨_, rfl, hJs⟩⟩
end
section
open Go.RowKit Cel
attribute [local go_sem] Oper.semAt_some
theorem Qdq (n : Nat) (hn : 1 ≤ n) (Br gU cU bs : Nat) (U : List ZW) (C : List FQ) (hU : U.length = 1) (hC : SmC C) (hF : 0 < C.length) (w wz : World) (hbs : bs < w.heap.size) [hB : Bx w Br 141 [.slice (some ⟨gU, 0, none⟩) U.length cU]] [hA : At w gU (Co U) wz] [hp : Cs w U [C] wz] :
  SeqStopsK Fence.wide n Tryz.prog 153 #[.pointer (some ⟨Br, 0, none⟩)] (Js C) (Kb bs) (fun ys => ys = List.finRange C.length) (fun pre => pre <+: List.finRange C.length) C.length w := fun l J Jx W hW hJ _ hY h0 => by
 have kW : Kp1 w W := ⟨hW⟩
 exact Qd6 n hn l Br gU cU bs U C hU hC hF wz J Jx W (Nat.lt_of_lt_of_le hbs hW.size) hJ hY h0
variable {C : List FQ} {U : List ZW} {c n : Nat} {w : World}
theorem Qgc {Q : Exit → Act → World → Prop} (wz : World) {go_ : Operand} {ps : Array Tmp} {assign body : Code} {Ts : Array Value} {Br gU cU bs : Nat} (hn : 3 ≤ n) (hg : Act.eval { tmps := Ts, defers := [] } go_ = .func (.func 153) #[] #[.pointer (some ⟨Br, 0, none⟩)]) (hU : U.length = 1) (hC : SmC C) (hF : 0 < C.length) (hbs : bs < w.heap.size)
  [hB : Bx w Br 141 [.slice (some ⟨gU, 0, none⟩) U.length cU]] [hA : At w gU (Co U) wz] [hp : Cs w U [C] wz] (hps : ps.size = 2) (upd : Array Value → _root_.Fin C.length → Nat → Array Value)
  (I : List (_root_.Fin C.length) → World → Prop) (Ix : Code → List (_root_.Fin C.length) → World → Prop) (hI : OwnFrom w.heap.size I) (hIx : ∀ c, OwnFrom w.heap.size (Ix c)) (h0 : I [] w)
  (hassign : ∀ (l : Nat) (pre : List (_root_.Fin C.length)) (x : _root_.Fin C.length) (W : World) (K : Act → World → Prop), I pre W → (∀ W' b, W.heap.size = b → Kp W W' → Bx W' b 96 (crL (crC C x.val)) → K { tmps := upd Ts x b, defers := [] } W') →
   assign.wpIn (Fence.wide.inRound l) (n - 1 - 1) Tryz.prog (Exit.then K (fun _ _ _ => False)) { tmps := (ps.zip (Js C x)).foldl (fun t (p, v) => t.setIfInBounds p v) Ts, defers := [] } W)
  (hIb : ∀ pre W W', I pre W → Kp W W' → I pre W') (hIs : ∀ pre W, I pre W → w.heap.size ≤ W.heap.size)
  (hbody : ∀ (l : Nat) (pre : List (_root_.Fin C.length)) (x : _root_.Fin C.length) (b : Nat) (W : World), I pre W → w.heap.size ≤ b → Bx W b 96 (crL (crC C x.val)) → pre.length < C.length → body.wpIn (Fence.wide.inRound l) (n - 1 - 1) Tryz.prog (ownPostG w.heap.size (Kb bs) I Ix (pre ++ [x]) W) { tmps := upd Ts x b, defers := [] } W)
  (hdone : ∀ (D : Nat) (W : World), w.heap.size ≤ D → I (List.finRange C.length) W → W.heap[D]? = some (.deferred (some [])) → Q .normal { tmps := Ts, defers := [{ target := .collected D, args := #[] }] } W)
  (hstop : ∀ (D : Nat) (c : Code) (pre : List (_root_.Fin C.length)) (W : World), w.heap.size ≤ D → pre <+: List.finRange C.length → Ix c pre W → W.heap[D]? = some (.deferred (some [])) → c.wpIn Fence.wide n Tryz.prog Q { tmps := Ts, defers := [{ target := .collected D, args := #[] }] } W) :
  (Code.rangeFunc go_ ps assign body).wp Tryz.prog Q { tmps := Ts, defers := [] } w := by
 refine (wpIn_wide (n := n)).1 ?_
 refine wpIn_rangeFunc_ownH rfl (by omega) hg trivial (enters_of Tryz.func153 (by kernel_rfl) rfl) (Qdq (n - 1) (by omega) Br gU cU bs U C hU hC hF w wz hbs) Kb.trans (fun W l o o' => Kb.put W l o o') (Below.refl _ _) (fun _ => by rw [hps]; rfl)
  I Ix hI hIx h0 (fun x a' W => ∃ b, w.heap.size ≤ b ∧ Bx W b 96 (crL (crC C x.val)) ∧ a' = { tmps := upd Ts x b, defers := [] }) ?_ ?_ ?_ ?_ ?_
 ·intro x a' s A B row ⟨b, h1, h2, h3⟩ hgr hr
  refine ⟨b, h1, ⟨?_⟩, h3⟩
  rw [hgr.block b h2.lt (fun e => ?_)]
  ·exact h2.out
  ·obtain ⟨_, o, ho, hc⟩ := hr b e.symm; rw [h2.out] at ho
   cases ho
   cases hc
 ·intro l pre x W K hi hK
  refine hassign l pre x W K hi (fun W' b hb hk hx => ?_)
  have hs := hIs _ _ hi
  exact hK _ _ ((KeepsOthers.of_grownBy (row := none) (Fu hk.out) (fun j o e => by cases e)).from _) (Kb.of hk) (hIb _ _ _ hi hk) ⟨b, by omega, hx, rfl⟩
 ·rintro l pre x a' W _ _ hi ⟨b, h1, h2, rfl⟩ hlt
  exact hbody l pre x b W hi h1 h2 hlt
 ·rintro D xs W hD rfl hi hK
  exact hdone D W hD hi hK
 ·exact hstop
variable {a : Option Addr}
theorem Qh9 : Calls Tryz.prog 110 #[.slice a n c] w fun e w' => e = .returned (.func (.func 153) #[] #[.pointer (some ⟨w.heap.size, 0, none⟩)]) ∧ w' = w.alloc (.cells #[.slice a n c] 141) := by
 have hmf : ∀ (fn : Fn) (first cap : Array Value) (w : World), (Instr.makeFunc fn first cap).run Tryz.prog w = .ok (.func fn first cap) w := fun _ _ _ _ => rfl
 go_enter Tryz.func110, Tryz.ntmps110; go_wp2; go_ret; exact ⟨rfl, rfl⟩
theorem Kb.set {bs i : Nat} {A B : World} {v : Value} (h : Kb bs A B) : Kb bs A (B.setCell ⟨bs, i, none⟩ v) := ⟨by rw [World.size_setCell]; exact h.size, fun a u n e => by
 rw [R9 (by simp only [World.setCell, Array.getElem?_modify]; rw [if_neg (fun e => n e.symm)])]
 exact h.cell a u n e⟩
def Iy (C : List FQ) (pre : List (_root_.Fin C.length)) : Rat := (pre.map fun i => crC C i.val).foldl (· + ·) 0
theorem Qif {pre : List (_root_.Fin C.length)} {x : _root_.Fin C.length} : Iy C (pre ++ [x]) = Iy C pre + crC C x.val := by
 unfold Iy; rw [List.map_append, List.foldl_append]; rfl
theorem Qc6 (C : List FQ) : Iy C (List.finRange C.length) = Fd (verts C) C.length := by
 unfold Iy; rw [Wg C.length (fun i => crC C i)]
 have : ∀ n, n ≤ C.length → ((List.range n).map fun i => crC C i).foldl (· + ·) 0 = Fd (verts C) n := by
  intro n
  induction n with
  | zero => intro _; rfl
  | succ n ih =>
   intro h; rw [List.range_succ, List.map_append, List.foldl_append, ih (by omega), Qd7 (by rw [Gu]; omega), Gu]; rfl
 exact this _ (Nat.le_refl _)
theorem Qav {w0 w1 : World} [hs : Sl w (.slice a n c) U.length (Co U) w0] [hp : Cs w U [C] w1] (hC : SmC C) (hF : 0 < C.length) : Calls Tryz.prog 69 #[.slice a n c] w (Bk w (Fd (verts C) C.length / 2) 5000) := by
 obtain rfl := hs.len
 have hU : U.length = 1 := hp.len
 obtain ⟨gU, rfl, hA0⟩ := hs.form (by omega)
 have hA : At w gU (Co U) w := ⟨hA0.out, hA0.ltW, hA0.ltW⟩
 have hp' := hp.here
 have hC9 := hC.len
 have HU := Lib.hid hU; clear hA0 hs hp hU
 refine Pe Tryz.func69 rfl ?_
 simp only [Tryz.ntmps69, List.size_toArray, List.length_cons, List.length_nil, Nat.reduceAdd, Nat.reduceSub, Array.replicate_succ, Array.replicate_zero, List.push_toArray, List.append_toArray, List.nil_append, List.cons_append]
 go_wp2_with (first
  | (go_at_call 110; refine Od Qh9 ?_; intro w1 _ br _))
 have hsz : w.heap.size ≤ w1.heap.size := (ii : Kp w w1).out.size
 have lt1 : LtN br w1.heap.size := ii
 have lt2 : LtN w.heap.size w1.heap.size := ii
 have lt3 : LtN (w.heap.size + 1) w1.heap.size := ii
 have ge1 : Ge w w1.heap.size := ⟨hsz⟩
 refine Qgc w (n := 5) (by omega) rfl HU.out hC hF (Br := br) (gU := gU) (cU := c) (bs := w.heap.size + 1) lt3.out rfl (fun T x b => ((T.setIfInBounds 8 (.agg (O5 C x.val).toArray)).setIfInBounds 9 (.agg (crL (crC C x.val)).toArray)).setIfInBounds 5 (.pointer (some ⟨b, 0, none⟩)))
  (fun pre W => Below w.heap.size w W ∧ ∃ (ns ds : Int) (ps : Option Addr) (kq : Nat), Bx W (w.heap.size + 1) 96 [.int .i64 ns, .int .i64 ds, .pointer ps] ∧ CF W (.agg #[.int .i64 ns, .int .i64 ds, .pointer ps]) (Iy C pre) kq ∧ Hid (kq ≤ 2 + 5 * pre.length ∧ kq ≤ 4900) ∧ Bx W w.heap.size 96 [.int .i64 0, .int .i64 0, .pointer none] ∧ w1.heap.size ≤ W.heap.size) (fun _ _ _ => False) (OwnFrom.and (ownFrom_below (Nat.le_refl _) hsz) ?own) (fun _ _ _ _ _ h _ _ => h.elim) ?start ?assign ?keep ?size ?body ?done ?stop
 case own =>
  rintro pre W W' row ⟨ns, ds, ps, kq, h1, h2, h3, h4, h5⟩ hg hr
  have nc : Nc1 W W' := Nc1.of hg (fun r e => (hr r e).2)
  exact ⟨ns, ds, ps, kq, ii, ii, h3, ii, Nat.le_trans h5 hg.size⟩
 case start => exact ⟨(ii : Kp w w1).out, 0, 0, none, 2, ii, CF.zero (Nat.le_refl _), Lib.hid (by simp), ii, Nat.le_refl _⟩
 case keep =>
  rintro pre W W' ⟨h0, ns, ds, ps, kq, h1, h2, h3, h4, h5⟩ hk
  have k1 : Kp1 W W' := ⟨hk.out⟩
  exact ⟨h0.trans (hk.out.mono h0.size), ns, ds, ps, kq, ii, ii, h3, ii, Nat.le_trans h5 hk.out.size⟩
 case size => exact fun pre W ⟨_, _, _, _, _, _, _, _, _, h5⟩ => h5
 case assign =>
  intro l pre x W K hI hK; simp only [Js, crL, List.zip_toArray, List.zip_cons_cons, List.zip_nil_right, List.foldl_toArray, List.foldl_cons, List.foldl_nil, List.setIfInBounds_toArray, List.set_cons_zero, List.set_cons_succ]; simp only [crL, List.setIfInBounds_toArray, List.set_cons_zero, List.set_cons_succ] at hK
  gi_wp2
  refine hK _ _ rfl ?_ ?_
  ·exact ii
  ·exact Bx.re rfl
 case body =>
  rintro l pre x b W ⟨hI, ns, ds, ps, kq, h1, h2, h3, h4, h5⟩ hb hx hlt9
  have kw1 : Kp1 w W := ⟨hI⟩
  have cc : CF W (.agg #[.int .i64 (crC C x.val).num, .int .i64 (((crC C x.val).den : Int) - 1), .pointer none]) (crC C x.val) 2 := CF.ofSm (hC.crs x.val x.isLt)
  have hb2 : NeN b (w.heap.size + 1) := ⟨by have := lt3.out; omega⟩
  simp only [crL] at hx; simp only [crL, List.setIfInBounds_toArray, List.set_cons_zero, List.set_cons_succ]
  have hkq : kq ≤ 4900 := h3.out.2
  gi_wp2_with (first
   | (refine ⟨trivial, ?_⟩; gi_at_call 111; (refine inR ?_); refine Ab (Gv (by omega)) ?_; intro w2 _ nz dz pz iz))
  refine ⟨(ii : Keo W _).out.from _, ((Kb.of (ii : Kp W w2)).set.set.set), (ii : Kp w _).out, nz, dz, pz, kq + 2 + 3, Bx.re rfl, by rw [Qif]; exact ii, Lib.hid ⟨by rw [List.length_append]; have := h3.out.1; simp; omega, by have := h3.out.1; omega⟩, ii, Nat.le_trans h5 (ii : Keo W _).out.size⟩
 case done =>
  rintro D W hD ⟨hI, ns, ds, ps, kq, h1, h2, h3, h4, h5⟩ hK
  have kw1 : Kp1 w W := ⟨hI⟩
  have gd : Ge w D := ⟨Nat.le_trans hsz hD⟩
  rw [Qc6] at h2
  have hkq : kq ≤ 4900 := h3.out.2
  go_wp2_with (first
   | (go_at_call 112; refine Ab (Qp (by omega)) ?_; intro w3 _ nh dh ph ih))
  have hD9 : D < W.heap.size := (Array.getElem?_eq_some_iff.1 hK).1
  have hK3 : w3.heap[D]? = some (.deferred (some [])) := by rw [(ii : Kp W w3).out.block _ hD9]; exact hK
  have hlt : w.heap.size < D := by have := lt2.out; omega
  refine Rb (D := D) rfl (Fm (Fm (Fm hK3 (by omega)) (by omega)) (by omega)) ?_
  have kd : Dp1 (((w3.setCell ⟨w.heap.size, 0, none⟩ (.int .i64 nh)).setCell ⟨w.heap.size, 1, none⟩ (.int .i64 dh)).setCell ⟨w.heap.size, 2, none⟩ (.pointer ph)) _ D := ⟨rfl, _, Fm (Fm (Fm hK3 (by omega)) (by omega)) (by omega)⟩
  refine Ac rfl Tryz.underlying96 rfl (by kernel_rfl) rfl rfl rfl ?_; exact Bk.fin rfl (by omega)
 case stop => exact fun _ _ _ _ _ _ h _ => h.elim
end
section
open Go.RowKit Cel
deriving instance DecidableEq for FQ
abbrev L0 : List (Rat × Rat) := [(((0 : Int) : Rat), ((0 : Int) : Rat)), (((2 : Int) : Rat), ((0 : Int) : Rat)), (((0 : Int) : Rat), ((2 : Int) : Rat))]
abbrev T0 : Tr := Cg 2 [L0]
def C0 : List FQ := (ins (pts T0 [])).getD 0 []
theorem Qf3 : ins (pts T0 []) = [C0] := by decide +kernel
theorem Qms : Fd (verts C0) C0.length / 2 = ((2 : Int) : Rat) := by decide +kernel
theorem Ql9 : Fin C0 := ⟨by decide +kernel, by decide +kernel, by decide +kernel⟩
theorem sm0 : SmC C0 := by
 refine ⟨?_, by decide +kernel, by decide +kernel, by decide +kernel⟩
 show ∀ i, i < C0.length → 0 < (sd C0 i).l.b * -(sd C0 ((i + 1) % C0.length)).l.a - -(sd C0 i).l.a * (sd C0 ((i + 1) % C0.length)).l.b
 decide +kernel
theorem Vd : RingOK L0 := ⟨by decide +kernel, by decide +kernel⟩
theorem Qao : Cr L0 := by
 intro i hi
 have h3 : L0.length = 3 := rfl
 rw [h3] at hi
 rcases (by omega : i = 0 ∨ i = 1 ∨ i = 2) with rfl | rfl | rfl
 ·exact ⟨0, 0, rfl, by omega, by omega⟩
 ·exact ⟨2, 0, rfl, by omega, by omega⟩
 ·exact ⟨0, 2, rfl, by omega, by omega⟩
theorem Qm : ∀ L ∈ [L0], Rok L := fun L h => by
 have := List.mem_singleton.1 h; subst this
 exact ⟨Vd, Qao.six.tight Vd, by decide⟩
theorem O8 : (Aj [L0]).length ≤ 15 := by rw [Le]; decide
theorem Qjs : ∀ l ∈ T0.lines, ShL l := Nv (fun L h => (Qm L h).ok) (fun e he => (Rt (fun L h => (Qm L h).ok) (fun L h => by have := List.mem_singleton.1 h; subst this; exact Qao) e he).sh)
theorem Nq {fill : Int} {R : List (List (Rat × Rat))} (h : (Aj R).length ≤ 15) : (Cg fill R).depth ≤ 15 := Nat.le_trans Tr.restrict_depth (Nat.le_trans Kx h)
variable {W w : World} {a : Option Addr} {c : Nat}
theorem Qla {w0 : World} {n : Nat} {V : List NW} {t : Tr} {C : List FQ} [hs : Sl w (.slice a n c) V.length (rowN V) w0] [hn : Cn w V (A4 t 0)] (hV : t.size ≤ 65536) (hl : ∀ l ∈ t.lines, ShL l) (hdp : t.depth ≤ 1024) (hC : Hid (ins (pts t []) = [C])) (hf : Fin C) (hm : SmC C) :
  Calls Tryz.prog 29 #[.agg #[.int .i64 (code t 0), .slice a n c]] w (Qd w (Fd (verts C) C.length / 2) 5000) := by
 obtain rfl := hs.len
 have hf2 : 0 < C.length := hf.2.1
 have hf1 : ∀ D ∈ [C], Fin D := fun D h => by have := List.mem_singleton.1 h; subst this; exact hf
 go_enter Tryz.func29, Tryz.ntmps29
 go_wp2_with (first
  | (go_at_call 68; refine Vy (Qei (V := V) hV hl hdp hC hf1 (by simp)) ?_; intro w5 _ a5 c5 U5 s5 p5)
  | (go_at_call 69; refine Ab (Qav (U := U5) hm hf2) ?_; intro w6 _ n6 d6 p6 i6)
  | (go_at_call 70; refine A9 (O6 (by decide)) ?_; intros))
 refine Yw rfl Tryz.underlying49 rfl (by kernel_rfl) rfl rfl rfl ?_
 exact Qd.fin rfl (by omega)
variable {V : List AV}
instance (priority := low) slRing1 {q : Nat} [hb : Bx W q 54 [.slice a V.length c]] : Sl W (.slice (some ⟨q, 0, none⟩) 1 1) [(⟨a, c, V⟩ : YV)].length (Bt [⟨a, c, V⟩]) W := Sl.ofBx hb (by decide)
instance (priority := low) rsRing1 {w1 : World} {k : Nat} {L : List (Rat × Rat)} [hs : Sl W (.slice a V.length c) V.length (Af V) w1] [hp : PsA W V L k] : RsA W [⟨a, c, V⟩] [L] k W := RsA.nil.snoc hs hp
theorem Jp : Calls Tryz.prog 12 #[] w (fun e w' => e = .returned (.bool true) ∧ Below w.heap.size w w') := by
 have hz : Hid (isgn (Fd (verts C0) C0.length / 2 - ((2 : Int) : Rat)).num = 0) := Lib.hid (by rw [Qms]; decide +kernel)
 have hc0 := Lib.hid Qf3
 have hsz : T0.size ≤ 65536 := Ki O8
 have hdp : T0.depth ≤ 1024 := Nat.le_trans (Nq O8) (by decide)
 go_enter Tryz.func12, Tryz.ntmps12
 go_wp2_with (first
  | (go_at_call 28; refine Dk (D9 (by omega)) ?_; intros)
  | (go_at_call 23; refine Nz (Qaa (k := 4) (by decide) (by decide) (by decide) (by decide)) ?_; intro w4 _ a4 c4 V4 s4 p4)
  | (go_at_call 15; refine Lq (O9 (U := [⟨a4, c4, V4⟩]) (R := [L0]) (k := 5) (fill := 2) (by decide) (by simp) Qm (.inr rfl) O8) ?_; intro w5 _ a5 c5 V5 s5 n5)
  | (go_at_call 29; refine Qcz (Qla (V := V5) (t := T0) (C := C0) hsz Qjs hdp hc0 Ql9 sm0) ?_; intros)
  | (go_at_call 31; refine A3 (Qin (by decide)) ?_; intros)
  | (go_at_call 21; refine A3 (Fj (by decide)) ?_; intros)
  | (go_at_call 30; refine Aa (Hj (by decide) hz) ?_; intros))
 go_ret; exact E.fin rfl
end
end Go.Proofs.YtpnpnlmlamfpmaaGreatDoor
