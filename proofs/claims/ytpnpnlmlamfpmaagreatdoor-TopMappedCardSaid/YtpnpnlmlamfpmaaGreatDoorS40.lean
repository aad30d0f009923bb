import Derived.Test.YtpnpnlmlamfpmaaGreatDoorS38
import Derived.Test.YtpnpnlmlamfpmaaGreatDoorS39
import Derived.OrdersIn
import Derived.Recover
namespace Go.Proofs.YtpnpnlmlamfpmaaGreatDoor
open Go.RowKit
set_option linter.unusedSimpArgs false
set_option linter.unusedVariables false
set_option maxRecDepth 100000
section
set_option maxHeartbeats 4000000
set_option synthInstance.maxHeartbeats 1000000
set_option synthInstance.maxSize 100000
open Go.RowKit Cel
instance boxT_tp : BoxT 110 := by constructor <;> decide
instance ndg_pt0 {b : Nat} : Ndg (.pointer (some ⟨b, 0, none⟩)) := ⟨rfl⟩
instance ndg_nil0 : Ndg .nilIface := ⟨rfl⟩
variable {w w0 w2 : World}
theorem Qns {p q : Value} : CallsD Tryz.prog 84 #[p, q] .returning w fun e u' w' => e = .returned (.tuple #[]) ∧ u' = .returning ∧ w' = w := by
 refine callsD_of_wpS Tryz.func84 rfl fun c₀ cs hu => ?_
 apply wpS_seq
 apply wpS_region
 simp [wpOpsS, go_sem, recoverD, hu, Tryz.ntmps84, Exit.thenS]
 apply wpS_seq
 apply wpS_region
 simp [wpOpsS, go_sem, hu, Exit.thenS]
 refine wpS_cond (t := false) (by simp [Act.eval, Array.replicate]) ?_
 simp only [Bool.false_eq_true, if_false]
 refine wpS_of_wp (wp_skip ?_)
 cases c₀
 simp_all [bodyPostS, results, Tryz.results84]
def TkE (w : World) (t : Tr) (e : Ending) (w' : World) : Prop := ∃ b, e = .returned (.tuple #[.pointer (some ⟨b, 0, none⟩), .nilIface]) ∧ Tk w' b t ∧ Below w.heap.size w w'
theorem Mo {P : Program} {f : FuncId} {args : Array Value} {t : Tr} {K : Ending → World → Prop} (h : Calls P f args w (TkE w t))
  (hK : ∀ w' [Kp1 w w'] (b : Nat) [Tk w' b t], K (.returned (.tuple #[.pointer (some ⟨b, 0, none⟩), .nilIface])) w') : Calls P f args w K := by
 refine h.mono ?_
 rintro e w' ⟨b, rfl, h1, h2⟩
 exact @hK w' ⟨h2⟩ b h1
variable {E L : List FQ} {VE VL : List GW} {a ae : Option Addr} {be bf c ce n : Nat} {fill : Int}
theorem Qb1 {gb : Nat} {T : Tr} (hT : Hid (bpart (fun p => Ba fill (Ao E p)) n L [] = T)) (hfill : fill = 1 ∨ fill = 2) (hVE : VE.length ≤ 800000) (hf : ∀ f ∈ E, f.v.nl = false ∧ f.v.nh = false) (hne1 : NeN bf gb) (hne2 : NeN be gb)
  [hs : Sl w (.slice a VL.length c) VL.length (rowW VL) w0] [hp : Cw w VL L] [ig : Bx w gb 173 [.int .i64 0, .func (.func 42) #[] #[.pointer (some ⟨bf, 0, none⟩), .pointer (some ⟨be, 0, none⟩)]]] [ib : Bx w bf 3 [.int .i64 fill]] [ie : Bx w be 108 [.slice ae VE.length ce]] [hsE : Sl w (.slice ae VE.length ce) VE.length (rowW VE) w2] [hpE : Cw w VE E]
  (hL : L.length ≤ n) (hok : ∀ f ∈ L, f.l.ok) (hn : n ≤ 15) : Calls Tryz.prog 85 #[.pointer (some ⟨gb, 0, none⟩), .slice a VL.length c, .slice none 0 0, .int .i64 0] w (Ng w gb (.func (.func 42) #[] #[.pointer (some ⟨bf, 0, none⟩), .pointer (some ⟨be, 0, none⟩)]) T 0) := by
 have h2n : 2 ^ n ≤ 2 ^ 15 := Nat.pow_le_pow_right (by decide) hn
 rw [← hT.out]
 have := Cw.nil (W := w)
 have := Cl (W := w)
 have ig' : Bx w gb 173 [.int .i64 ((0 : Nat) : Int), .func (.func 42) #[] #[.pointer (some ⟨bf, 0, none⟩), .pointer (some ⟨be, 0, none⟩)]] := ig
 exact Qbs (gb := gb) (ig := ig') (a' := none) (c' := 0) (VC := []) (C := []) (n := n) (N := 0) hfill hVE hf hne1 hne2 hL hok (by omega) (Int.le_refl 0) (by omega) (by simp; omega)
theorem Qex (hfill : fill = 1 ∨ fill = 2) (hVE : VE.length ≤ 800000) (hf : ∀ f ∈ E, f.v.nl = false ∧ f.v.nh = false)
  [hs : Sl w (.slice a VL.length c) VL.length (rowW VL) w0] [hp : Cw w VL L] [ib : Bx w bf 3 [.int .i64 fill]] [ie : Bx w be 108 [.slice ae VE.length ce]] [hsE : Sl w (.slice ae VE.length ce) VE.length (rowW VE) w2] [hpE : Cw w VE E]
  (hL : L.length ≤ n) (hok : ∀ f ∈ L, f.l.ok) (hn : n ≤ 15) :
  Calls Tryz.prog 41 #[.slice a VL.length c, .func (.func 42) #[] #[.pointer (some ⟨bf, 0, none⟩), .pointer (some ⟨be, 0, none⟩)]] w (TkE w ((bpart (fun p => Ba fill (Ao E p)) n L []).restrict [])) := by
 have hmf : ∀ (fn : Fn) (first cap : Array Value) (w : World), (Instr.makeFunc fn first cap).run Tryz.prog w = .ok (.func fn first cap) w := fun _ _ _ _ => rfl
 have h2n : 2 ^ n ≤ 2 ^ 15 := Nat.pow_le_pow_right (by decide) hn
 have hnb : NeN bf (w.heap.size + 1 + 1) := ii
 have hne : NeN be (w.heap.size + 1 + 1) := ii
 have hdd : (bpart (fun p => Ba fill (Ao E p)) n L []).depth ≤ 15 := Nat.le_trans Kx hn
 have slC : ∀ w : World, Sl w (.slice none 0 0) ([] : List GW).length (rowW []) w := fun w => Cl
 have cwC : ∀ w : World, Cw w [] [] := fun w => Cw.nil
 generalize hT : bpart (fun p => Ba fill (Ao E p)) n L [] = T at *
 have hT' := Lib.hid hT
 clear hT
 go_enter_defers Tryz.func41, Tryz.ntmps41
 go_wp2_with (first
  | (go_at_call 85; refine Rc (t := T) (N := 0) (Qb1 hT' hfill hVE hf hnb hne hL hok hn) ?_; intros)
  | (go_at_call 86; refine A7 (Qgi (by omega)) ?_; intros))
 refine leaves_cons (f := 84) (args := #[.pointer (some ⟨w.heap.size, 0, none⟩), .pointer (some ⟨w.heap.size + 1, 0, none⟩)]) (by simp) (by simp [go_sem]) ?_
 refine Qns.mono ?_
 rintro e u' w'' ⟨rfl, rfl, rfl⟩
 simp [Leaves, settle, results, Tryz.results41, go_sem]; exact ⟨_, rfl, ii, (ii : Kp w _).out⟩
end
section
set_option maxHeartbeats 4000000
set_option synthInstance.maxHeartbeats 1000000
set_option synthInstance.maxSize 100000
open Go.RowKit Cel
variable {W W2 w w0 : World} {bo c k n : Nat} {v : Value} {xs : List Value}
instance (priority := low) Sl.wr {base : Nat} [k : Wr1 W W2 base bo] [h : Sl W v n xs w0] [l1 : Ge w0 base] [l2 : Ge w0 bo] : Sl W2 v n xs w0 := h.keep k.out.size (fun g e => by
 rcases k.out.blk g (h.ltW g e) with h1 | ⟨_, h1⟩
 ·exact h1
 ·have := h.lt g e; have := l1.out; have := l2.out; omega)
instance (priority := low) At.wr {base : Nat} {g : Nat} [k : Wr1 W W2 base bo] [h : At W g xs w0] [l1 : Ge w0 base] [l2 : Ge w0 bo] : At W2 g xs w0 := ⟨fun j u hu => by
 have hb : W2.heap[g]? = W.heap[g]? := by
  rcases k.out.blk g h.ltW with h1 | ⟨_, h1⟩
  ·exact h1
  ·have := h.lt; have := l1.out; have := l2.out; omega
 rw [Gw hb]; exact h.out j u hu, h.lt, Nat.lt_of_lt_of_le h.ltW k.out.size⟩
instance (priority := low) PsF.wr {base : Nat} {V : List FV} {L : List (Rat × Rat)} [b : Wr1 W W2 base bo] [h : PsF W V L k] : PsF W2 V L k := ⟨h.len, fun i hi => by have := h.x i hi; exact ii, fun i hi => by have := h.y i hi; exact ii⟩
variable {V : List GW}
instance (priority := low) Cw.wr {base : Nat} {C : List FQ} [b : Wr1 W W2 base bo] [h : Cw W V C] : Cw W2 V C := ⟨h.len, fun i hi => by
 have := h.f i hi
 exact ⟨ii, ⟨by have := this.i.u; exact ii, by have := this.i.v; exact ii, this.i.nl, this.i.nh⟩⟩⟩
variable {R : List (List (Rat × Rat))}
instance (priority := low) RsF.wr {base : Nat} {U : List XV} [b : Wr1 W W2 base bo] [l1 : Ge w0 base] [l2 : Ge w0 bo] [h : RsF W U R k w0] : RsF W2 U R k w0 := ⟨h.len, fun i hi => by have := h.s i hi; exact ii, fun i hi => by have := h.p i hi; exact ii⟩
def Ot (w : World) (t : Tr) (e : Ending) (w' : World) : Prop := ∃ (a : Option Addr) (c : Nat) (V : List NW), e = .returned (.tuple #[.agg #[.int .i64 (code t 0), .slice a V.length c], .nilIface]) ∧ Sl w' (.slice a V.length c) V.length (rowN V) w' ∧ Cn w' V (A4 t 0) ∧ Below w.heap.size w w'
theorem Lq {P : Program} {f : FuncId} {args : Array Value} {t : Tr} {K : Ending → World → Prop} (h : Calls P f args w (Ot w t))
  (hK : ∀ w' [Kp1 w w'] (a : Option Addr) (c : Nat) (V : List NW) [Sl w' (.slice a V.length c) V.length (rowN V) w'] [Cn w' V (A4 t 0)], K (.returned (.tuple #[.agg #[.int .i64 (code t 0), .slice a V.length c], .nilIface])) w') : Calls P f args w K := by
 refine h.mono ?_
 rintro e w' ⟨a, c, V, rfl, h1, h2, h3⟩
 exact @hK w' ⟨h3⟩ a c V h1 h2
def Cg (fill : Int) (R : List (List (Rat × Rat))) : Tr := (bpart (fun p => Ba fill (Ao (Aj R) p)) (Aj R).length (Aj R) []).restrict []
variable {fill : Int}
theorem Ki (h : (Aj R).length ≤ 15) : (Cg fill R).size ≤ 65536 := by
 have h1 := Tr.size_depth (Cg fill R)
 have h2 : (Cg fill R).depth ≤ 15 := Nat.le_trans Tr.restrict_depth (Nat.le_trans Kx h)
 have h3 := Nat.pow_le_pow_right (n := 2) (by decide) h2
 omega
variable {a : Option Addr}
theorem Wm {bf be : Nat} {T : Tr} (hT : Hid (Cg fill R = T)) (hfill : fill = 1 ∨ fill = 2) (hV : V.length ≤ 15) (hf : ∀ f ∈ Aj R, f.v.nl = false ∧ f.v.nh = false) (hok : ∀ f ∈ Aj R, f.l.ok) (hE : (Aj R).length ≤ 15)
  [hs : Sl w (.slice a V.length c) V.length (rowW V) w0] [hp : Cw w V (Aj R)] [ib : Bx w bf 3 [.int .i64 fill]] [ie : Bx w be 108 [.slice a V.length c]] :
  Calls Tryz.prog 41 #[.slice a V.length c, .func (.func 42) #[] #[.pointer (some ⟨bf, 0, none⟩), .pointer (some ⟨be, 0, none⟩)]] w (TkE w T) := by
 rw [← hT.out]; exact Qex (bf := bf) (be := be) (VL := V) (VE := V) (L := Aj R) (E := Aj R) (n := (Aj R).length) hfill (by omega) hf (Nat.le_refl _) hok hE
theorem Sl.setBox {q i : Nat} {V : List NW} {t : TypeId} {r : Int} {l : List Value} {x : Value} (h : Sl W v n (rowN V) w0) (hb : Bx W q t (.int .i64 r :: l)) : Sl (W.setCell ⟨q, i, none⟩ x) v n (rowN V) (W.setCell ⟨q, i, none⟩ x) := by
 have h := h.here
 refine Sl.here (w0 := W) ⟨?_, h.lt, fun g e => by rw [World.size_setCell]; exact h.ltW g e⟩
 rcases h.out with e | ⟨g, c, rfl, hc, hcell⟩
 ·exact .inl e
 ·refine .inr ⟨g, c, rfl, hc, fun j u hu => ?_⟩
  have hne : g ≠ q := fun e => by
   cases V with
   | nil => simp [rowN] at hu
   | cons y V =>
    have h2 := hcell 0 (.bool y.x.g) rfl
    rw [e, B8] at h2
    cases h2
  rw [World.cell?_setCell_other _ _ _ _ (fun e => hne (by injection e with e1; exact e1.symm))]; exact hcell j u hu
theorem O9 {w1 : World} {U : List YV} [hs : Sl w (.slice a n c) U.length (Bt U) w0] [hp : RsA w U R k w1] (b : k ≤ 8) (hU : U.length ≤ 256) (hR : ∀ L ∈ R, Rok L) (hfill : fill = 1 ∨ fill = 2) (hE : (Aj R).length ≤ 15) :
  Calls Tryz.prog 15 #[.slice a n c, .int .i64 fill] w (Ot w (Cg fill R)) := by
 have hmf : ∀ (fn : Fn) (first cap : Array Value) (w : World), (Instr.makeFunc fn first cap).run Tryz.prog w = .ok (.func fn first cap) w := fun _ _ _ _ => rfl
 obtain rfl := hs.len; have hlen := Lib.hid hp.len; have HR := Lib.hid hR
 have hR1 : ∀ L ∈ R, RingOK L ∧ L.length ≤ 900 := fun L h => ⟨(hR L h).ok, (hR L h).len⟩
 have hok := J5 (fun L h => (hR L h).ok)
 clear hR
 rcases hfill with rfl | rfl
 ·go_enter Tryz.func15, Tryz.ntmps15
  go_wp2_with (first
   | (go_at_call 39; refine P0 (Oh (U := U) (by omega) hU hR1) ?_; intro w5 _ a5 c5 X s5 p5))
  go_loopw [33] (fun i wr => ∃ (q : Nat) (v : Value) (V : List GW), i = .int .i64 (q : Int) ∧ q ≤ X.length ∧ Rn wr v 165 17 V.length (rowW V) (w5.heap.size + 1) wr ∧ Bx wr w5.heap.size 108 [v] ∧ Cw wr V (Aj (R.take q)) ∧ Wr (w5.alloc (.cells #[.slice none 0 0] 108)) wr (w5.heap.size + 1) w5.heap.size) (fun i _ => X.length - (intOf i).toNat)
  case atStart => exact ⟨0, .slice none 0 0, [], rfl, by omega, Rn.nil (by simp), ii, Cw.nil, ii⟩
  case round =>
   obtain ⟨q, v, V, rfl, hq, i1, i2, i3, i4⟩ := hrel; obtain ⟨av, cv, rfl⟩ := i1.slice
   have kw := Wr1.mk i4
   have hXl := Lib.hid p5.len
   have hV1 : V.length ≤ 15 := by rw [i3.len]; exact Nat.le_trans (Pp R q) hE
   by_cases hlt : q < X.length
   ·have hlt' : (q : Int) < X.length := by omega
    have lq : LtN q X.length := ⟨hlt⟩
    have ew : IntKind.i64.wrap ((q : Int) + 1) = (q : Int) + 1 := Ap (by have := hlen.out; have := hXl.out; omega) (by have := hlen.out; have := hXl.out; omega)
    have hqR : q < R.length := by rw [← hXl.out]; exact hlt
    have hRq := Lib.hid (HR.out _ (Hy hqR)); obtain ⟨g, rfl, hA⟩ := s5.form (by omega); go_wp2_with fail; refine rgn [] [3, 4] fun hH => ?_; refine tk 0 hH ?_; refine tkW 1 [2, 3, 4] hH (st 2 fun K hK => ?_); go_simp
    (refine Nu (Re (V := (xv X q).V) (k := k + 2) (by omega) hRq.out) ?_)
    intro w7 _ a7 c7 V7 s7 p7
    have h7 : V7.length = (rg R q).length := by rw [p7.len]; simp [Dw, Bu]
    have h70 : 0 < V7.length := by rw [h7]; exact hRq.out.ok.pos
    have h79 : V7.length ≤ 900 := by rw [h7]; exact hRq.out.len
    have h7h := Lib.hid h7; clear h7; obtain ⟨g7, rfl, hA7⟩ := s7.form h70; refine hd hK fun hH => st 3 fun K hK => ?_; rw [if_pos (by rfl)]
    refine Nj (v := .slice av V.length cv) (.tmp 37) (.tmp 39) 108 rfl Tryz.underlying108 Hs rfl (by decide) (by decide) (by decide) ii rfl (F7 _) rfl (l := rowW V7) (fun j u hu => by rw [N1]; exact hA7.out j u hu) (Dj _) (Hn _) (F7 _) h70 (by omega) ?_
    intro g8 c8 W8 k8 k8n i8; refine hdT hK ?_; clear hK K; refine st 4 fun K hK => ?_; go_simp; refine hdT hK ?_; clear hK K; refine dn ?_; clear hH; go_wp2_with fail
    go_roundw
    case rel => exact ⟨q + 1, .slice (some ⟨g8, 0, none⟩) (V.length + V7.length) c8, V ++ V7, by go_num, by omega, Rn.cast2 (ii : Rn _ (.slice (some ⟨g8, 0, none⟩) (V.length + V7.length) c8) 165 17 (V.length + V7.length) (rowW V ++ rowW V7) _ W8) (by simp) (by rw [Kf]), Bx.re (h := ii) rfl, by rw [Iq hqR, P1]; exact Cw.app ii ii, ii⟩
    case measure => simp [intOf]; omega
   ·obtain rfl : q = X.length := by omega
    rw [List.take_of_length_le (by have := hXl.out; omega)] at i3
    have sV : Sl wr (.slice av V.length cv) V.length (rowW V) wr := i1.rw'.sl
    have hTs := Lib.hid (Ki (fill := 1) hE)
    have hok1 : ∀ f ∈ Aj R, f.l.ok := fun f hf => (hok f hf).1
    have hok2 : ∀ f ∈ Aj R, f.v.nl = false ∧ f.v.nh = false := fun f hf => (hok f hf).2
    obtain ⟨T, hT⟩ : ∃ x, Cg 1 R = x := ⟨_, rfl⟩
    have hT' := Lib.hid hT
    rw [hT]; rw [hT] at hTs; clear hT hok
    go_wp2_with (first
    | (go_at_call 41; refine Mo (Wm (V := V) hT' (.inl rfl) (by omega) hok2 hok1 hE) ?_; intro w9 _ b9 k9)
    | (go_at_call 45; refine Qh (Q5 (t := T) hTs.out) ?_; intro w10 _ a10 c10 V10 s10 n10))
    refine B6 rfl Tryz.underlying61 rfl (by kernel_rfl) rfl rfl rfl ?_
    exact ⟨a10, c10, V10, by rw [hT'.out]; rfl, (s10.setBox (ii : Bx w10 (w.heap.size + 1) 61 [.int .i64 0, .slice none 0 0])).setBox (Bx.re (h := Bx.setS (h := (ii : Bx w10 (w.heap.size + 1) 61 [.int .i64 0, .slice none 0 0]))) rfl), by rw [hT'.out]; exact ii, (ii : Kp w _).out⟩
 ·go_enter Tryz.func15, Tryz.ntmps15
  go_wp2_with (first
   | (go_at_call 39; refine P0 (Oh (U := U) (by omega) hU hR1) ?_; intro w5 _ a5 c5 X s5 p5))
  go_loopw [33] (fun i wr => ∃ (q : Nat) (v : Value) (V : List GW), i = .int .i64 (q : Int) ∧ q ≤ X.length ∧ Rn wr v 165 17 V.length (rowW V) (w5.heap.size + 1) wr ∧ Bx wr w5.heap.size 108 [v] ∧ Cw wr V (Aj (R.take q)) ∧ Wr (w5.alloc (.cells #[.slice none 0 0] 108)) wr (w5.heap.size + 1) w5.heap.size) (fun i _ => X.length - (intOf i).toNat)
  case atStart => exact ⟨0, .slice none 0 0, [], rfl, by omega, Rn.nil (by simp), ii, Cw.nil, ii⟩
  case round =>
   obtain ⟨q, v, V, rfl, hq, i1, i2, i3, i4⟩ := hrel; obtain ⟨av, cv, rfl⟩ := i1.slice
   have kw := Wr1.mk i4
   have hXl := Lib.hid p5.len
   have hV1 : V.length ≤ 15 := by rw [i3.len]; exact Nat.le_trans (Pp R q) hE
   by_cases hlt : q < X.length
   ·have hlt' : (q : Int) < X.length := by omega
    have lq : LtN q X.length := ⟨hlt⟩
    have ew : IntKind.i64.wrap ((q : Int) + 1) = (q : Int) + 1 := Ap (by have := hlen.out; have := hXl.out; omega) (by have := hlen.out; have := hXl.out; omega)
    have hqR : q < R.length := by rw [← hXl.out]; exact hlt
    have hRq := Lib.hid (HR.out _ (Hy hqR)); obtain ⟨g, rfl, hA⟩ := s5.form (by omega); go_wp2_with fail; refine rgn [] [3, 4] fun hH => ?_; refine tk 0 hH ?_; refine tkW 1 [2, 3, 4] hH (st 2 fun K hK => ?_); go_simp
    (refine Nu (Re (V := (xv X q).V) (k := k + 2) (by omega) hRq.out) ?_)
    intro w7 _ a7 c7 V7 s7 p7
    have h7 : V7.length = (rg R q).length := by rw [p7.len]; simp [Dw, Bu]
    have h70 : 0 < V7.length := by rw [h7]; exact hRq.out.ok.pos
    have h79 : V7.length ≤ 900 := by rw [h7]; exact hRq.out.len
    have h7h := Lib.hid h7; clear h7; obtain ⟨g7, rfl, hA7⟩ := s7.form h70; refine hd hK fun hH => st 3 fun K hK => ?_; rw [if_pos (by rfl)]
    refine Nj (v := .slice av V.length cv) (.tmp 37) (.tmp 39) 108 rfl Tryz.underlying108 Hs rfl (by decide) (by decide) (by decide) ii rfl (F7 _) rfl (l := rowW V7) (fun j u hu => by rw [N1]; exact hA7.out j u hu) (Dj _) (Hn _) (F7 _) h70 (by omega) ?_
    intro g8 c8 W8 k8 k8n i8; refine hdT hK ?_; clear hK K; refine st 4 fun K hK => ?_; go_simp; refine hdT hK ?_; clear hK K; refine dn ?_; clear hH; go_wp2_with fail
    go_roundw
    case rel => exact ⟨q + 1, .slice (some ⟨g8, 0, none⟩) (V.length + V7.length) c8, V ++ V7, by go_num, by omega, Rn.cast2 (ii : Rn _ (.slice (some ⟨g8, 0, none⟩) (V.length + V7.length) c8) 165 17 (V.length + V7.length) (rowW V ++ rowW V7) _ W8) (by simp) (by rw [Kf]), Bx.re (h := ii) rfl, by rw [Iq hqR, P1]; exact Cw.app ii ii, ii⟩
    case measure => simp [intOf]; omega
   ·obtain rfl : q = X.length := by omega
    rw [List.take_of_length_le (by have := hXl.out; omega)] at i3
    have sV : Sl wr (.slice av V.length cv) V.length (rowW V) wr := i1.rw'.sl
    have hTs := Lib.hid (Ki (fill := 2) hE)
    have hok1 : ∀ f ∈ Aj R, f.l.ok := fun f hf => (hok f hf).1
    have hok2 : ∀ f ∈ Aj R, f.v.nl = false ∧ f.v.nh = false := fun f hf => (hok f hf).2
    obtain ⟨T, hT⟩ : ∃ x, Cg 2 R = x := ⟨_, rfl⟩
    have hT' := Lib.hid hT
    rw [hT]; rw [hT] at hTs; clear hT hok
    go_wp2_with (first
    | (go_at_call 41; refine Mo (Wm (V := V) hT' (.inr rfl) (by omega) hok2 hok1 hE) ?_; intro w9 _ b9 k9)
    | (go_at_call 45; refine Qh (Q5 (t := T) hTs.out) ?_; intro w10 _ a10 c10 V10 s10 n10))
    refine B6 rfl Tryz.underlying61 rfl (by kernel_rfl) rfl rfl rfl ?_
    exact ⟨a10, c10, V10, by rw [hT'.out]; rfl, (s10.setBox (ii : Bx w10 (w.heap.size + 1) 61 [.int .i64 0, .slice none 0 0])).setBox (Bx.re (h := Bx.setS (h := (ii : Bx w10 (w.heap.size + 1) 61 [.int .i64 0, .slice none 0 0]))) rfl), by rw [hT'.out]; exact ii, (ii : Kp w _).out⟩
end
section
open Cel
variable {R : List (List (Rat × Rat))}
theorem Ry (h : ∀ L ∈ R, RingOK L) : ∀ e ∈ Aj R, Ih e.l := by
 intro e he; obtain ⟨L, hL, he⟩ := List.mem_flatMap.1 he; obtain ⟨f, hf, rfl⟩ := List.mem_map.1 he; obtain ⟨i, hi, rfl⟩ := List.mem_map.1 hf; exact ⟨_, _, _, (G0 ((h L hL).edge i (List.mem_range.1 hi))).v, rfl⟩
theorem Qmv {m : Aff} (hm : m.det ≠ 0) {fill : Int} (hR : ∀ L ∈ R, RingOK L) (hR' : ∀ L ∈ R.map (List.map m.to), RingOK L) :
  (Cg fill (R.map (List.map m.to))).merge ((Cg fill R).img (Bb m)) [] = .leaf false :=
 mapped S6 hm (Jz hR) (Jz hR') (Ry hR) (Ry hR') (Qgs hm)
theorem Le (R : List (List (Rat × Rat))) : (Aj R).length = (R.map List.length).sum := by
 induction R with
 | nil => rfl
 | cons L R ih =>
  have e : Aj (L :: R) = Dw L ++ Aj R := rfl
  rw [e, List.length_append, ih, List.map_cons, List.sum_cons]; simp [Dw, Bu]
theorem Qik (f : Rat × Rat → Rat × Rat) (R : List (List (Rat × Rat))) : (Aj (R.map (List.map f))).length = (Aj R).length := by
 rw [Le, Le, List.map_map]
 congr 1
 exact List.map_congr_left fun L _ => by simp
end
section
variable {F : Fence} {n : Nat} {P : Program} {ops : Array Oper} {Q : Exit → Act → World → Prop} {md : Region.Mode} {S : World → Prop}
theorem Qdk (dl : List (Nat × Tmp)) (pre : Nat → List Nat) (φs : List (Value → World → Prop)) [hΦ : Lasts φs] (A : List Nat) {L0 : Array Bool} {a0 : Act} {w : World} {N : Nat} (m : Nat) (hF : N = m + dl.length)
  (hchk : Wi md ops L0 (dl.map (·.1)) pre = true) (hd : (dl.map (·.2)).Nodup) (hnd : (dl.map (·.1)).Nodup) (hds : (dl.all fun p => H5 ops p.1 == some p.2) = true) (hA : ∀ i ∈ A, ∀ v W, phi φs (dl.map (·.1)) i v W → Ma v W) (hSk : ∀ W W', Below W.heap.size W W' → S W → S W') (hS : S w)
  (hop : ∀ i ∈ dl.map (·.1), ∀ (f : Nat → Value) (W : World), S W → Below w.heap.size w W → (∀ j ∈ pre i, phi φs (dl.map (·.1)) j (f j) W) → ∃ o, ops[i]? = some o ∧ ∀ K' : Act → World → Prop,
   Shut (∀ a' v W', a' = (Ai f dl a0).put o.dst v → Below W.heap.size W W' → phi φs (dl.map (·.1)) i v W' → (i ∈ A → Oy v W) → K' a' W') →
   if Region.wanted o (yielded ops (Ai f dl a0).tmps) = true then Oper.wpIn F n P o (Ai f dl a0) W K' Q else (∀ f', o.about P W (Ai f dl a0).eval = some f' → F.fn f') ∧ K' ((Ai f dl a0).put o.dst undef) W)
  (hend : ∀ (f : Nat → Value) (W : World), S W → Below w.heap.size w W → (∀ j ∈ dl.map (·.1), phi φs (dl.map (·.1)) j (f j) W) → (∀ j k, j ∈ A → k ∈ A → j ∈ dl.map (·.1) → k ∈ dl.map (·.1) → j ≠ k → f j ≠ f k) → wpAnyIn F n P md ops Q m (lset (dl.map (·.1)) L0) (Ai f dl a0) W) :
  wpAnyIn F n P md ops Q N L0 a0 w := by
 subst hF
 have hlen : dl.length = (dl.map (·.1)).length := by rw [List.length_map]
 rw [hlen]
 have hds' : ∀ i ∈ dl.map (·.1), ∃ d, (i, d) ∈ dl ∧ H5 ops i = some d := fun i hi => by
  obtain ⟨p, hp, rfl⟩ := List.mem_map.1 hi
  exact ⟨p.2, hp, by simpa using List.all_eq_true.1 hds p hp⟩
 generalize hT : dl.map (·.1) = todo at *
 have key : ∀ (k₀ : Nat) (g : Nat → Bool) (f : Nat → Value) (W : World), (todo.filter fun j => !g j).length = k₀ → S W → Below w.heap.size w W → (∀ j ∈ todo, g j = true → phi φs todo j (f j) W) → (∀ j k, j ∈ A → k ∈ A → j ∈ todo → k ∈ todo → g j = true → g k = true → j ≠ k → f j ≠ f k) → (∀ j ∈ todo, g j = true → ∀ k ∈ pre j, k ∈ todo ∧ g k = true) →
   wpAnyIn F n P md ops Q (m + k₀) (lset (todo.filter g) L0) (Ai f dl a0) W := by
  intro k₀
  induction k₀ with
  | zero =>
   intro g f W hn hSW hB hf hne _
   have hall : ∀ j ∈ todo, g j = true := fun j hj => by
    have h0 := List.eq_nil_of_length_eq_zero hn
    have := List.filter_eq_nil_iff.1 h0 j hj
    simpa using this
   rw [List.filter_eq_self.2 hall]; exact hend f W hSW hB (fun j hj => hf j hj (hall j hj)) (fun j k ha hb hj hk => hne j k ha hb hj hk (hall j hj) (hall k hk))
  | succ k₁ ih =>
   intro g f W hn hSW hB hf hnf hcl
   have hs := List.all_eq_true.1 hchk _ (Sc g todo)
   have hne : ((todo.filter g == todo) : Bool) = false := by
    rw [beq_eq_false_iff_ne]; intro e
    have hall := List.filter_eq_self.1 e
    have : (todo.filter fun j => !g j) = [] := List.filter_eq_nil_iff.2 (fun j hj => by simp [hall j hj])
    rw [this] at hn; simp at hn
   have hcl2 : ((todo.filter g).all fun i => (pre i).all fun j => (todo.filter g).contains j) = true := by
    simp only [List.all_eq_true, List.contains_iff_mem, List.mem_filter]
    exact fun i hi j hj => hcl i hi.1 hi.2 j hj
   rw [hne, hcl2, Bool.not_true, Bool.false_or, Bool.false_or, Bool.and_eq_true] at hs; obtain ⟨hr, hs⟩ := hs
   refine ⟨fun h0 => (by rw [h0] at hr; simp at hr), fun i hi => ?_⟩
   have hi2 := List.all_eq_true.1 hs i hi
   simp only [Bool.and_eq_true, List.contains_iff_mem, Bool.not_eq_true', List.all_eq_true] at hi2; obtain ⟨⟨hit, his⟩, hp⟩ := hi2
   have hgi : g i = false := by
    cases hg : g i with
    | false => rfl
    | true =>
     have : (todo.filter g).contains i = true := List.contains_iff_mem.2 (List.mem_filter.2 ⟨hit, hg⟩)
     rw [this] at his
     cases his
   obtain ⟨o, ho, H⟩ := hop i hit f W hSW hB (fun j hj => by
    have := List.mem_filter.1 (hp j hj)
    exact hf j this.1 this.2)
   obtain ⟨d, hdm, hdo⟩ := hds' i hit
   refine wpOpIn_step ho (fun K' hK => H K' (fun a' v W' ha hb hv hnw => hK _ _ ?_))
   have hdst : o.dst = some d := by rw [← hdo]; simp [H5, ho]
   rw [ha, Zl todo g hit, hdst, Pj dl a0 hd (hT ▸ hnd) hdm]
   refine ih _ _ W' (by have := Ow hgi todo hnd hit; omega) (hSk _ _ hb hSW) (Ar hB hb) (fun j hj hgj => ?_) (fun j k haj hak hj hk hgj hgk hjk => ?_) (fun j hj hgj k hk => ?_)
   ·by_cases hji : j = i
    ·subst hji
     rw [show upd f j v j = v from if_pos rfl]
     exact hv
    ·rw [show upd f i v j = f j from if_neg hji]
     refine (hΦ.out todo j).out _ _ _ hb (hf j hj ?_)
     simpa [hji] using hgj
   ·by_cases hji : j = i
    ·have hki : ¬ k = i := fun e => hjk (hji.trans e.symm)
     have hgk' : g k = true := by simpa [hki] using hgk
     rw [show upd f i v k = f k from if_neg hki, show upd f i v j = v from if_pos hji]
     exact (Mh (hnw (hji ▸ haj)) (hA k hak _ _ (hf k hk hgk'))).symm
    ·have hgj' : g j = true := by simpa [hji] using hgj
     rw [show upd f i v j = f j from if_neg hji]
     by_cases hki : k = i
     ·rw [show upd f i v k = v from if_pos hki]
      exact Mh (hnw (hki ▸ hak)) (hA j haj _ _ (hf j hj hgj'))
     ·rw [show upd f i v k = f k from if_neg hki]
      exact hnf j k haj hak hj hk hgj' (by simpa [hki] using hgk) hjk
   ·by_cases hji : j = i
    ·subst hji
     have := List.mem_filter.1 (hp k hk)
     exact ⟨this.1, by simp [this.2]⟩
    ·have := hcl j hj (by simpa [hji] using hgj) k hk
     exact ⟨this.1, by simp [this.2]⟩
 have h0 := key todo.length (fun _ => false) (Ku a0 dl) w (by simp) hS (Below.refl _ _) (fun _ _ h => nomatch h) (fun _ _ _ _ _ _ h => nomatch h) (fun _ _ h => nomatch h)
 rw [Nx a0 dl (Qx a0 dl (hT ▸ hnd))] at h0
 have hnil : todo.filter (fun _ => false) = [] := List.filter_eq_nil_iff.2 (fun _ _ => by simp)
 rw [hnil] at h0; exact h0
end
end Go.Proofs.YtpnpnlmlamfpmaaGreatDoor
