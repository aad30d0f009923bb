import Derived.Test.YtpnpnlmlamfpmaaGreatDoorS31
import Derived.Test.YtpnpnlmlamfpmaaGreatDoorS34
import Derived.Test.YtpnpnlmlamfpmaaGreatDoorS36
import Derived.Test.YtpnpnlmlamfpmaaGreatDoorS37
import Derived.Laws.EntriesVeiled
namespace Go.Proofs.YtpnpnlmlamfpmaaGreatDoor
set_option linter.unusedSimpArgs false
set_option linter.unusedVariables false
set_option maxHeartbeats 4000000
set_option maxRecDepth 100000
set_option synthInstance.maxHeartbeats 1000000
set_option synthInstance.maxSize 100000
section
open Go.RowKit Cel
instance boxT_bld : BoxT 173 := by constructor <;> decide
instance boxT_frs : BoxT 108 := by constructor <;> decide
instance ndg_fn {fn : Fn} {a b : Array Value} : Ndg (.func fn a b) := ⟨rfl⟩
variable {W W2 w w0 : World} {be bf ce g n : Nat}
instance (priority := low) Ex.sr {W0 : World} {L : List Nat} [k : Sr1 W W2 g] [n : InL g L] [h : Ex W0 L W] : Ex W0 L W2 :=
 ⟨Nat.le_trans h.size k.gb.size, fun j hj hL => by
  rw [k.gb.block j (Nat.lt_of_lt_of_le hj h.size) (fun e => by injection e with e; subst e; exact hL n.out)]; exact h.block j hj hL⟩
variable {V VE : List GW}
instance (priority := low) Sl.sr2 {c : Nat} {t : TypeId} {x y : Value} {a : Option Addr} [k : Sr1 W W2 g] [hb : Bx W g t [x, y]] [h : Sl W (.slice a n c) V.length (rowW V) w0] : Sl W2 (.slice a n c) V.length (rowW V) W2 := by
 refine ⟨?_, fun j e => Nat.lt_of_lt_of_le (h.ltW j e) k.gb.size, fun j e => Nat.lt_of_lt_of_le (h.ltW j e) k.gb.size⟩
 rcases h.out with h1 | ⟨g', c', e, hc, hcell⟩
 ·exact .inl h1
 ·refine .inr ⟨g', c', e, hc, fun j u hu => ?_⟩
  have hne : g' ≠ g := fun eg => by
   cases V with
   | nil => simp [rowW] at hu
   | cons z V =>
    have h2 := hcell 2 (.pointer z.l.x.p) rfl
    rw [eg, B8] at h2
    cases h2
  have hlt := h.ltW g' (by rw [e]; rfl)
  rw [Gw (k.gb.block g' hlt (fun e => hne (by injection e)))]; exact hcell j u hu
variable {C E : List FQ} {ae : Option Addr} {fill : Int}
theorem Qe5 {w1 : World} {n1 d1 n2 d2 : Int} {p1 p2 : Option Addr} {x y : Rat} [hx : CF w (.agg #[.int .i64 n1, .int .i64 d1, .pointer p1]) x 22600] [hy : CF w (.agg #[.int .i64 n2, .int .i64 d2, .pointer p2]) y 22600] [ib : Bx w bf 3 [.int .i64 fill]] [ie : Bx w be 108 [.slice ae VE.length ce]] [hs : Sl w (.slice ae VE.length ce) VE.length (rowW VE) w1] [hp : Cw w VE E] (hfill : fill = 1 ∨ fill = 2) (hV : VE.length ≤ 800000) (hf : ∀ f ∈ E, f.v.nl = false ∧ f.v.nh = false) :
  Calls Tryz.prog 42 #[.agg #[.int .i64 n1, .int .i64 d1, .pointer p1, .int .i64 n2, .int .i64 d2, .pointer p2], .pointer (some ⟨bf, 0, none⟩), .pointer (some ⟨be, 0, none⟩)] w (fun e w' => e = .returned (.bool (Ba fill (Ao E (x, y)))) ∧ Below w.heap.size w w') := by
 go_enter Tryz.func42, Tryz.ntmps42; go_wp2_with fail; refine rgn [] [] fun hH => ?_; refine tk 0 hH ?_; refine tk 1 hH ?_; refine tk 2 hH (st 3 fun K hK => ?_); go_simp; refine Aa (Qz (by omega) hf) ?_; intros; refine hd hK fun hH => st 4 fun K hK => ?_; go_simp; refine Aa (Qj0 hfill) ?_; intros; refine hd hK fun hH => ?_; refine tk 5 hH (dn ?_); clear hH; go_wp2_with fail; go_ret; exact Go.Proofs.YtpnpnlmlamfpmaaGreatDoor.E.fin rfl
def Ng (w : World) (g : Nat) (fv : Value) (t : Tr) (N : Nat) (e : Ending) (w' : World) : Prop := ∃ b, e = .returned (.pointer (some ⟨b, 0, none⟩)) ∧ Tk w' b t ∧ Bx w' g 173 [.int .i64 ((N + t.size : Nat) : Int), fv] ∧ w.grownBy w' (some g)
theorem Rc {P : Program} {f : FuncId} {args : Array Value} {fv : Value} {t : Tr} {N : Nat} {K : Ending → World → Prop} [hs : SoftB w g] (h : Calls P f args w (Ng w g fv t N))
  (hK : ∀ w' [Sr1 w w' g] (b : Nat) [Tk w' b t] [Bx w' g 173 [.int .i64 ((N + t.size : Nat) : Int), fv]], K (.returned (.pointer (some ⟨b, 0, none⟩))) w') : Calls P f args w K := by
 refine h.mono ?_
 rintro e w' ⟨b, rfl, h1, h2, h3⟩
 exact @hK w' ⟨h3, hs⟩ b h1 h2
variable {acc : Rat × Rat → Bool}
theorem Qfr : bpart acc n [] C = .leaf (acc (inner C)) := by cases n <;> rfl
theorem Y2 {m : LQ} {q : Nat} (h : q < C.length) : kept (C.take (q + 1)) m = kept (C.take q) m ++ Im (sd C q) m := Vz h
theorem Qba {L : List FQ} : (bpart acc n L C).size + 1 ≤ 2 ^ n := by
 have h1 := Tr.size_depth (bpart acc n L C)
 have h2 := Nat.pow_le_pow_right (n := 2) (by decide) (Kx (acc := acc) (n := n) (L := L) (C := C))
 omega
theorem Qjk [h : At W g (rowW V) w0] (hk : 0 < V.length) : (loadVar 161 ⟨g, 0, none⟩).run Tryz.prog W = .ok (.agg #[.int .i64 (wV V 0).l.x.n, .int .i64 (wV V 0).l.x.d, .pointer (wV V 0).l.x.p, .int .i64 (wV V 0).l.y.n, .int .i64 (wV V 0).l.y.d, .pointer (wV V 0).l.y.p, .int .i64 (wV V 0).l.z.n, .int .i64 (wV V 0).l.z.d, .pointer (wV V 0).l.z.p]) W :=
 Ms W g 0 161 [.int .i64 (wV V 0).l.x.n, .int .i64 (wV V 0).l.x.d, .pointer (wV V 0).l.x.p, .int .i64 (wV V 0).l.y.n, .int .i64 (wV V 0).l.y.d, .pointer (wV V 0).l.y.p, .int .i64 (wV V 0).l.z.n, .int .i64 (wV V 0).l.z.d, .pointer (wV V 0).l.z.p] _ Tryz.underlying161 rfl (by kernel_rfl) (fun j hj => by
  have h1 := Ci (k := 0) (j := j) h hk (by simp at hj; omega)
  rw [Nat.zero_mul] at h1; rw [h1]; simp only [List.length_cons, List.length_nil] at hj
  congr 1
  rcases (by omega : j = 0 ∨ j = 1 ∨ j = 2 ∨ j = 3 ∨ j = 4 ∨ j = 5 ∨ j = 6 ∨ j = 7 ∨ j = 8) with rfl | rfl | rfl | rfl | rfl | rfl | rfl | rfl | rfl <;> rfl)
theorem Lt (f : FQ) (m : LQ) : (Im f m).length ≤ 1 := by unfold Im; split <;> simp
theorem Qbs {gb : Nat} (hfill : fill = 1 ∨ fill = 2) (hVE : VE.length ≤ 800000) (hf : ∀ f ∈ E, f.v.nl = false ∧ f.v.nh = false) (hne1 : NeN bf gb) (hne2 : NeN be gb) : ∀ {n : Nat} {w w0 w1 w2 : World} {a a' : Option Addr} {c c' : Nat} {VL VC : List GW} {L C : List FQ} {N : Nat} {dp : Int}
  [hs : Sl w (.slice a VL.length c) VL.length (rowW VL) w0] [hp : Cw w VL L] [hs' : Sl w (.slice a' VC.length c') VC.length (rowW VC) w1] [hp' : Cw w VC C] [ig : Bx w gb 173 [.int .i64 (N : Int), .func (.func 42) #[] #[.pointer (some ⟨bf, 0, none⟩), .pointer (some ⟨be, 0, none⟩)]]] [ib : Bx w bf 3 [.int .i64 fill]] [ie : Bx w be 108 [.slice ae VE.length ce]] [hsE : Sl w (.slice ae VE.length ce) VE.length (rowW VE) w2] [hpE : Cw w VE E]
  (hL : L.length ≤ n) (hok : ∀ f ∈ L, f.l.ok) (hN : N + 2 ^ n ≤ 65537) (hd0 : 0 ≤ dp) (hdp : dp + n ≤ 1024) (hV : VC.length + n ≤ 700000),
  Calls Tryz.prog 85 #[.pointer (some ⟨gb, 0, none⟩), .slice a VL.length c, .slice a' VC.length c', .int .i64 dp] w (Ng w gb (.func (.func 42) #[] #[.pointer (some ⟨bf, 0, none⟩), .pointer (some ⟨be, 0, none⟩)]) (bpart (fun p => Ba fill (Ao E p)) n L C) N) := by
 have leafCase : ∀ {n : Nat} {w w0 w1 w2 : World} {a a' : Option Addr} {c c' : Nat} {VL VC : List GW} {L C : List FQ} {N : Nat} {dp : Int}
  [hs : Sl w (.slice a VL.length c) VL.length (rowW VL) w0] [hp : Cw w VL L] [hs' : Sl w (.slice a' VC.length c') VC.length (rowW VC) w1] [hp' : Cw w VC C] [ig : Bx w gb 173 [.int .i64 (N : Int), .func (.func 42) #[] #[.pointer (some ⟨bf, 0, none⟩), .pointer (some ⟨be, 0, none⟩)]]] [ib : Bx w bf 3 [.int .i64 fill]] [ie : Bx w be 108 [.slice ae VE.length ce]] [hsE : Sl w (.slice ae VE.length ce) VE.length (rowW VE) w2] [hpE : Cw w VE E]
  (h0 : L = []) (hV : VC.length + n ≤ 700000), Calls Tryz.prog 85 #[.pointer (some ⟨gb, 0, none⟩), .slice a VL.length c, .slice a' VC.length c', .int .i64 dp] w (Ng w gb (.func (.func 42) #[] #[.pointer (some ⟨bf, 0, none⟩), .pointer (some ⟨be, 0, none⟩)]) (bpart (fun p => Ba fill (Ao E p)) n L C) N) := by
  intro n w w0 w1 w2 a a' c c' VL VC L C N dp hs hp hs' hp' ig ib ie hsE hpE h0 hV; subst h0
  have hVL : VL.length = 0 := hp.len
  have hb0 : ((VL.length : Int) == 0) = true := by rw [hVL]; rfl
  rw [Qfr]; go_enter Tryz.func85, Tryz.ntmps85; go_wp2_with fail; refine rgn [] [] fun hH => ?_; refine tk 0 hH ?_; refine tk 1 hH ?_; refine tk 2 hH ?_; refine tk 3 hH ?_; refine tk 4 hH (st 5 fun K hK => ?_); go_simp; refine Au (Qe4 (V := VC) (C := C) (by omega)) ?_; intros; refine hd hK fun hH => st 6 fun K hK => ?_; go_simp; refine Aa (Qe5 hfill hVE hf) ?_; intros; refine hd hK fun hH => st 7 fun K hK => ?_; go_simp; refine A7 (M2) ?_; intros; refine hd hK fun hH => ?_; refine tk 8 hH (dn ?_); clear hH; go_wp2_with fail; go_ret; exact ⟨_, rfl, ii, (ii : Bx _ gb _ _), (ii : Gb w _ gb).out⟩
 intro n
 induction n with
 | zero =>
  intro w w0 w1 w2 a a' c c' VL VC L C N dp hs hp hs' hp' ig ib ie hsE hpE hL hok hN hd0 hdp hV; exact leafCase (List.eq_nil_of_length_eq_zero (by omega)) hV
 | succ n ih =>
  intro w w0 w1 w2 a a' c c' VL VC L C N dp hs hp hs' hp' ig ib ie hsE hpE hL hok hN hd0 hdp hV
  cases L with
  | nil => exact leafCase rfl hV
  | cons f L =>
   have hlen := Lib.hid hp.len
   have hVL : VL.length = L.length + 1 := hp.len
   have hb0 : ((VL.length : Int) == 0) = false := beq_eq_false_iff_ne.2 (by omega)
   have lz : LtN 0 VL.length := ⟨by omega⟩
   have hVLh := Lib.hid hVL
   have hVLb : VL.length ≤ 1025 := by simp only [List.length_cons] at hL; omega
   have hz1 : 0 < VL.length := lz.out
   have hz2 : (0 : Int) < (VL.length : Int) := (by omega)
   have hp2 : 2 ^ (n + 1) = 2 * 2 ^ n := by rw [Nat.pow_succ]; omega
   have hp1 : 1 ≤ 2 ^ n := Nat.one_le_two_pow
   have ew : IntKind.i64.wrap ((N : Int) + 1) = (N : Int) + 1 := Ap (by omega) (by omega)
   have ed : IntKind.i64.wrap (dp + 1) = dp + 1 := Ap (by omega) (by omega)
   have hg1 : decide (65536 < (N : Int) + 1) = false := decide_eq_false (by omega)
   have hg2 : decide (1024 ≤ dp) = false := decide_eq_false (by omega)
   have hg3 : ¬ (65536 < (N : Int) + 1) := (by omega)
   have hfok : f.l.ok := hok f (by simp)
   have hsd0 : sd (f :: L) 0 = f := rfl
   obtain ⟨g, rfl, hA⟩ := hs.form lz.out
   have hsh := hs.here
   clear hVL hp2
   have hp2 := Lib.hid (show 2 ^ (n + 1) = 2 * 2 ^ n by rw [Nat.pow_succ]; omega)
   have k1 := Jr L f.l
   have k2 := Jr L (rev f.l)
   have k3 := Lib.hid (Gk C f.l); have k4 := Lib.hid (Gk C (rev f.l))
   rw [show bpart (fun p => Ba fill (Ao E p)) (n + 1) (f :: L) C = .node f.l (bpart (fun p => Ba fill (Ao E p)) n (kept L f.l) (clip C f.l).1) (bpart (fun p => Ba fill (Ao E p)) n (kept L (rev f.l)) (clip C (rev f.l)).1) by rw [bpart, Ps hfok, O4 hfok]]
   have z1 := Lib.hid (show (bpart (fun p => Ba fill (Ao E p)) n (kept L f.l) (clip C f.l).1).size + 1 ≤ 2 ^ n from Qba)
   have o1 : ∀ h ∈ kept L f.l, h.l.ok := Ko (S := LQ.ok) (fun x hx => hok x (List.mem_cons_of_mem _ hx))
   have o2 : ∀ h ∈ kept L (rev f.l), h.l.ok := Ko (S := LQ.ok) (fun x hx => hok x (List.mem_cons_of_mem _ hx))
   have n1 := Lib.hid (show (kept L f.l).length ≤ n by simp only [List.length_cons] at hL; omega)
   have n2 := Lib.hid (show (kept L (rev f.l)).length ≤ n by simp only [List.length_cons] at hL; omega)
   have hClen := Lib.hid hp'.len; clear k1 k2
   generalize hP : bpart (fun p => Ba fill (Ao E p)) n (kept L f.l) (clip C f.l).1 = T1, hQ : bpart (fun p => Ba fill (Ao E p)) n (kept L (rev f.l)) (clip C (rev f.l)).1 = T2 at *
   have hP' := Lib.hid hP
   have hQ' := Lib.hid hQ
   clear hP hQ; obtain ⟨D1, hD⟩ : ∃ x, kept L f.l = x := ⟨_, rfl⟩; rw [hD] at hP' o1 n1; have hD1 := Lib.hid hD; clear hD; obtain ⟨D2, hD⟩ : ∃ x, kept L (rev f.l) = x := ⟨_, rfl⟩; rw [hD] at hQ' o2 n2; have hD2 := Lib.hid hD; clear hD; obtain ⟨X1, hX⟩ : ∃ x, clip C f.l = x := ⟨_, rfl⟩; rw [hX] at hP' k3
   have hX' : Hid ((clip C f.l).2 = X1.2) := Lib.hid (by rw [hX])
   have hX2 : Hid ((clip C f.l).1 = X1.1) := Lib.hid (by rw [hX])
   obtain ⟨X2, hY⟩ : ∃ x, clip C (rev f.l) = x := ⟨_, rfl⟩; rw [hY] at hQ' k4
   have hY' : Hid ((clip C (rev f.l)).2 = X2.2) := Lib.hid (by rw [hY])
   have hY2 : Hid ((clip C (rev f.l)).1 = X2.1) := Lib.hid (by rw [hY])
   clear hX hY; go_enter Tryz.func85, Tryz.ntmps85
   go_upto_region 4 with fail
   obtain ⟨W1, hW1⟩ : ∃ W1, w.setCell ⟨gb, 0, none⟩ (.int .i64 ((N : Int) + 1)) = W1 := ⟨_, rfl⟩; rw [hW1]
   have s1 : Sr1 w W1 gb := by
    rw [← hW1]
    exact ⟨⟨rfl, rfl, rfl, by rw [World.size_setCell]; exact Nat.le_refl _, fun j hj hn => by
     simp only [World.setCell, Array.getElem?_modify]
     rw [if_neg (fun e => hn (by rw [e]))]⟩, ii⟩
   have ig1 : Bx W1 gb 173 [.int .i64 ((N + 1 : Nat) : Int), .func (.func 42) #[] #[.pointer (some ⟨bf, 0, none⟩), .pointer (some ⟨be, 0, none⟩)]] := by
    rw [← hW1]; exact Bx.re (h := Bx.setS (h := ig)) rfl
   have hge1 : W1.heap.size = w.heap.size := by rw [← hW1, World.size_setCell]
   clear hW1
   have gW1 : Gg w W1.heap.size := ⟨by omega⟩
   have gW2 : Gg w (W1.heap.size + 1) := ⟨by omega⟩
   clear hge1
   have lgb : LtN gb W1.heap.size := ii
   have lbf : LtN bf W1.heap.size := ii
   have lbe : LtN be W1.heap.size := ii
   have hA1 : At W1 g (rowW VL) W1 := by
    have hs1 : Sl W1 (.slice (some ⟨g, 0, none⟩) VL.length c) VL.length (rowW VL) W1 := ii
    obtain ⟨g', hg', hA'⟩ := hs1.form lz.out
    cases hg'
    exact hA'
   go_wp2_with (first | refine A0 (t := 161) (x := .tmp 52) rfl rfl rfl (Qjk hz1) ?_)
   go_loopw [56, 10, 11] (fun i vl vr wr => ∃ (q : Nat) (L1 R1 : List GW), i = .int .i64 (q : Int) ∧ q ≤ VL.length ∧ Hid (L1.length ≤ q) ∧ Hid (R1.length ≤ q) ∧ Rn wr vl 165 17 L1.length (rowW L1) (W1.heap.size + 1) wr ∧ Rn wr vr 165 17 R1.length (rowW R1) (W1.heap.size + 1) wr ∧ (∀ g, vl.ownBlock = some g → vr.ownBlock ≠ some g) ∧ Cw wr L1 (kept ((f :: L).take q) f.l) ∧ Cw wr R1 (kept ((f :: L).take q) (rev f.l)) ∧ Gb w wr gb ∧ Bx wr gb 173 [.int .i64 ((N + 1 : Nat) : Int), .func (.func 42) #[] #[.pointer (some ⟨bf, 0, none⟩), .pointer (some ⟨be, 0, none⟩)]] ∧ Bx wr W1.heap.size 161 [.int .i64 (wV VL 0).l.x.n, .int .i64 (wV VL 0).l.x.d, .pointer (wV VL 0).l.x.p, .int .i64 (wV VL 0).l.y.n, .int .i64 (wV VL 0).l.y.d, .pointer (wV VL 0).l.y.p, .int .i64 (wV VL 0).l.z.n, .int .i64 (wV VL 0).l.z.d, .pointer (wV VL 0).l.z.p]) (fun i _ _ _ => VL.length - (intOf i).toNat)
   case atStart => exact ⟨0, [], [], rfl, by omega, Lib.hid (Nat.le_refl _), Lib.hid (Nat.le_refl _), Rn.nil (by rw [World.size_alloc]; omega), Rn.nil (by rw [World.size_alloc]; omega), fun g h => (by cases h), Cw.nil, Cw.nil, ii, ii, ii⟩
   case round =>
    obtain ⟨q, L1, R1, rfl, hq, hq1, hq2, i1, i2, hdj, i3, i4, i5, i6, i7⟩ := hrel
    have sW : Sr1 w wr gb := ⟨i5.out, ii⟩
    have fk0 : Fk w (wV VL 0) f := hsd0 ▸ (ii : Fk w (wV VL 0) (sd (f :: L) 0))
    have lk0 : Lk w (wV VL 0).l f.l := fk0.l
    have lkr : Lk wr (wV VL 0).l f.l := ii
    by_cases hlt : q < VL.length
    ·have hlt' : (q : Int) < VL.length := by omega
     have lq : LtN q VL.length := ⟨hlt⟩
     have eq1 : IntKind.i64.wrap ((q : Int) + 1) = (q : Int) + 1 := Ap (by omega) (by omega)
     have hsw : Sl wr (.slice (some ⟨g, 0, none⟩) VL.length c) VL.length (rowW VL) wr := ii
     obtain ⟨g', hg', hA'⟩ := hsw.form lz.out
     cases hg'
     have hqC : q < (f :: L).length := by have := hlen.out; omega
     go_wp2_with (first
      | refine A0 (t := 165) (x := .tmp 58) rfl rfl rfl (C6 (k := q) hlt) ?_
      | refine A0 (t := 165) (x := .tmp 13) rfl rfl rfl (Bc Tryz.underlying165 rfl (by kernel_rfl)) ?_
      | (go_at_call 125; refine Qak (Qdw (e := wV VL q) (f := sd (f :: L) q) (v := (wV VL 0).l) (m := f.l)) ?_; intro w5 _ aD cD VD aU cU VU sD dD sU dU fU)
      | (at_builtin; go_loud (refine T5 (v := u10) rfl (.tmp 66) (.tmp 67) rfl rfl (L := L1) (R := R1) (base := W1.heap.size + 1) (w0 := wr) (w1 := wr) (w2 := w5) (r := u11) ii ii hdj rfl (D := VD) sD (by have := hq1.out; have := dD.len; have := Lt (sd (f :: L) q) f.l; omega) (y := .slice aU VU.length cU) ii (fun k hk hy => (by have h1 := i1.rw'.ltW k hk; have h2 := fU k hy; rw [World.size_alloc] at h2; omega)) ?_); intro v6 w6 _ _ sU6 m1 m2 m0)
      | (at_builtin; go_loud (refine T5 (v := u11) rfl (.tmp 69) (.tmp 70) rfl rfl (L := R1) (R := L1 ++ VD) (base := W1.heap.size + 1) (w0 := w6) (w1 := w6) (w2 := w6) (r := v6) m2 m1 (fun g h1 h2 => m0 g h2 h1) rfl (D := VU) sU6 (by have := hq2.out; have := dU.len; have := Lt (sd (f :: L) q) (rev f.l); omega) (y := .slice none 0 0) Cl (fun k hk hy => (by cases hy)) ?_); intro v7 w7 _ _ _ m4 m3 m5))
     go_roundw
     case rel => exact ⟨q + 1, L1 ++ VD, R1 ++ VU, by go_num, by omega, Lib.hid (by rw [List.length_append, dD.len]; have := hq1.out; have := Lt (sd (f :: L) q) f.l; omega), Lib.hid (by rw [List.length_append, dU.len]; have := hq2.out; have := Lt (sd (f :: L) q) (rev f.l); omega), m3.here, m4.here, fun g h1 h2 => m5 g h2 h1, by rw [Y2 hqC]; exact Cw.app ii ii, by rw [Y2 hqC]; exact Cw.app ii ii, ii, ii, ii⟩
     case measure => simp [intOf]; omega
    ·obtain rfl : q = VL.length := by omega
     obtain ⟨a1, c1, rfl⟩ := i1.slice; obtain ⟨a2, c2, rfl⟩ := i2.slice
     have sL : Sl wr (.slice a1 L1.length c1) L1.length (rowW L1) wr := i1.rw'.sl
     have sR : Sl wr (.slice a2 R1.length c2) R1.length (rowW R1) wr := i2.rw'.sl
     have sC : Sl wr (.slice a' VC.length c') VC.length (rowW VC) wr := Sl.here ii
     have sE : Sl wr (.slice ae VE.length ce) VE.length (rowW VE) wr := Sl.here ii
     rw [List.take_of_length_le (by have := hlen.out; omega)] at i3 i4; rw [Ps hfok, hD1.out] at i3; rw [O4 hfok, hD2.out] at i4
     go_wp2_with (first
      | (go_at_call 126; refine Ew (Es (V := VC) (C := C) (v := (wV VL 0).l) (m := f.l) (by omega) hX' hY') ?_; intro w10 _ aX cX VX aY cY VY sX dX sY dY; rw [hX2.out] at dX; rw [hY2.out] at dY; have hXl := Lib.hid dX.len; have hYl := Lib.hid dY.len)
      | (go_at_call 85; refine Rc (t := T1) (N := N + 1) (by rw [← hP'.out]; exact ih (VL := L1) (VC := VX) (L := D1) (C := X1.1) (N := N + 1) (dp := dp + 1) n1.out o1 (by have := z1.out; have := hp2.out; omega) (by omega) (by omega) (by have := hXl.out; have := k3.out; have := hClen.out; omega)) ?_; intros))
     refine rgn [gb] [] fun hH => ?_; refine tk 0 hH ?_; refine tk 1 hH ?_; refine tk 2 hH ?_; refine tk 3 hH ?_; refine tk 4 hH ?_; refine tk 5 hH ?_; refine tk 6 hH (st 7 fun K hK => ?_); go_simp; refine Rc (t := T2) (N := N + 1 + T1.size) (by rw [← hQ'.out]; exact ih (VL := R1) (VC := VY) (L := D2) (C := X2.1) (N := N + 1 + T1.size) (dp := dp + 1) n2.out o2 (by have := z1.out; have := hp2.out; omega) (by omega) (by omega) (by have := hYl.out; have := k4.out; have := hClen.out; omega)) ?_; intros; refine hd hK fun hH => st 8 fun K hK => ?_; go_simp; refine A7 (G8) ?_; intros; refine hd hK fun hH => ?_; refine tk 9 hH (dn ?_); clear hH; go_wp2_with fail; go_ret
     exact ⟨_, rfl, ii, Bx.re (h := (ii : Bx _ gb 173 [.int .i64 ((N + 1 + T1.size + T2.size : Nat) : Int), .func (.func 42) #[] #[.pointer (some ⟨bf, 0, none⟩), .pointer (some ⟨be, 0, none⟩)]])) (by simp only [Tr.size]; congr 3; omega), (ii : Gb w _ gb).out⟩
end
section
open Go.RowKit Cel
instance boxT_nd : BoxT 184 := by constructor <;> decide
instance boxT_atr : BoxT 61 := by constructor <;> decide
class Wr (w W : World) (base bo : Nat) : Prop where
 os : W.os = w.os
 tape : W.tape = w.tape
 output : W.output = w.output
 size : w.heap.size ≤ W.heap.size
 blk : ∀ j, j < w.heap.size → W.heap[j]? = w.heap[j]? ∨ (SoftB w j ∧ (j = bo ∨ base ≤ j))
class Wr1 (w : outParam World) (W : World) (base bo : outParam Nat) : Prop where out : Wr w W base bo
variable {w W W2 w0 : World} {base bo : Nat}
theorem Wr.more (h : Wr w W base bo) (ho : W2.os = W.os ∧ W2.tape = W.tape ∧ W2.output = W.output ∧ W.heap.size ≤ W2.heap.size) (hb : ∀ j, j < W.heap.size → W2.heap[j]? = W.heap[j]? ∨ (SoftB W j ∧ (j = bo ∨ base ≤ j))) : Wr w W2 base bo :=
 ⟨ho.1.trans h.os, ho.2.1.trans h.tape, ho.2.2.1.trans h.output, Nat.le_trans h.size ho.2.2.2, fun j hj => by
  rcases h.blk j hj with h1 | h1
  ·rcases hb j (Nat.lt_of_lt_of_le hj h.size) with h2 | ⟨h2, h3⟩
   ·exact .inl (h2.trans h1)
   ·obtain ⟨t, l, h4, h5⟩ := h2.out
    exact .inr ⟨⟨t, l, by rw [← h1]; exact h4, h5⟩, h3⟩
  ·exact .inr h1⟩
instance Wr.refl : Wr w w base bo := ⟨rfl, rfl, rfl, Nat.le_refl _, fun _ _ => .inl rfl⟩
instance Wr.al {o : Obj} [h : Wr w W base bo] : Wr w (W.alloc o) base bo := h.more ⟨rfl, rfl, rfl, by rw [World.size_alloc]; omega⟩ (fun j hj => .inl (E0 hj))
instance Wr.dr [h : Wr w W base bo] : Wr w W.drew base bo := h.more ⟨rfl, rfl, rfl, Nat.le_refl _⟩ (fun _ _ => .inl rfl)
instance (priority := low) Wr.kp [k : Kp1 W W2] [h : Wr w W base bo] : Wr w W2 base bo := h.more ⟨k.out.os, k.out.tape, k.out.output, k.out.size⟩ (fun j hj => .inl (k.out.block j hj))
instance (priority := low) Wr.wr [k : Wr1 W W2 base bo] [h : Wr w W base bo] : Wr w W2 base bo := h.more ⟨k.out.os, k.out.tape, k.out.output, k.out.size⟩ k.out.blk
instance (priority := low) Wr.ap [k1 : Ap1 W W2 base w0] [k2 : Apn W W2] [h : Wr w W base bo] : Wr w W2 base bo := by
 obtain ⟨r1, g1, p1⟩ := k1.out; obtain ⟨r2, g2, p2⟩ := k2.out
 refine h.more ⟨g1.os, g1.tape, g1.output, g1.size⟩ fun j hj => ?_
 rcases Classical.em (some j = r1) with e1 | e1
 ·rcases Classical.em (some j = r2) with e2 | e2
  ·exact .inr ⟨p2 j e2.symm, .inr (p1 j e1.symm).1⟩
  ·exact .inl (g2.block j hj e2)
 ·exact .inl (g1.block j hj e1)
theorem Wr.put {q i : Nat} {x : Value} (h : Wr w W base bo) (s : SoftB W q) (hq : q = bo ∨ base ≤ q) : Wr w (W.setCell ⟨q, i, none⟩ x) base bo :=
 h.more ⟨rfl, rfl, rfl, by rw [World.size_setCell]; exact Nat.le_refl _⟩ fun j hj => by
  rcases Nat.decEq j q with e | e
  ·refine .inl ?_
   simp only [World.setCell, Array.getElem?_modify]; rw [if_neg (fun h => e h.symm)]
  ·subst e; exact .inr ⟨s, hq⟩
class LeB (a b : Nat) : Prop where out : a ≤ b
instance Wr.st0 {i : Nat} {x : Value} [s : SoftB W bo] [h : Wr w W base bo] : Wr w (W.setCell ⟨bo, i, none⟩ x) base bo := h.put s (.inl rfl)
instance (priority := low) Wr.st1 {q i : Nat} {x : Value} [l : LeB base q] [s : SoftB W q] [h : Wr w W base bo] : Wr w (W.setCell ⟨q, i, none⟩ x) base bo := h.put s (.inr l.out)
instance (priority := low) Sf1.wr [k : Wr1 W W2 base bo] : Sf1 W W2 := ⟨k.out.os, k.out.tape, k.out.output, k.out.size, fun j hj => (k.out.blk j hj).imp id (·.1)⟩
instance (priority := low) Bx.wr {b : Nat} {t : TypeId} {l : List Value} [k : Wr1 W W2 base bo] [h : Bx W b t l] [n1 : LtN b base] [n2 : NeN b bo] : Bx W2 b t l := ⟨by
 rcases k.out.blk b h.lt with e | ⟨_, e⟩
 ·rw [e]; exact h.out
 ·have := n1.out; have := n2.out; omega⟩
theorem Rn.boxed {W w0 : World} {g n c sz base : Nat} {e : TypeId} {xs : List Value} (h : Rn W (.slice (some ⟨g, 0, none⟩) n c) e sz n xs base w0) : ∃ Z, Bx W g e (xs ++ Z) ∧ ∀ u ∈ Z, Am u = false := by
 obtain ⟨t, l, h1, ht, hd⟩ := (h.nd g rfl).out
 rcases h.rw'.out.2 with ⟨e1, _⟩ | ⟨g', c', cur, e1, hb, hc, hn, hm, hs, htk⟩
 ·cases e1
 ·cases e1
  rw [h1] at hc
  cases hc
  have htk : l.take (n * sz) = xs := htk
  refine ⟨l.drop xs.length, ⟨?_⟩, fun u hu => hd u (List.mem_of_mem_drop hu)⟩
  rw [h1]
  have h2 : xs ++ l.drop xs.length = l := by
   have h3 := h.rw'.out.1
   conv => rhs; rw [← List.take_append_drop xs.length l]
   rw [h3, htk]
  rw [h2]
theorem Nj {W w0 : World} {o : Oper} {a : Act} {K : Act → World → Prop} {Q : Exit → Act → World → Prop} (s x : Operand) (t : TypeId)
  (hop : o.op = .call { callee := .builtin .append, args := #[s, x], argTypes := #[t, t] }) {e : TypeId} (ht : Tryz.prog.underlying t = some (.slice e)) {z : Value} {sz bt : Nat}
  (hi : (Tryz.prog.info? e).map (fun i => (i.zero, i.size, i.bytes)) = some (some z, sz, bt)) (hzs : z.cells.size = sz) (hsz : 0 < sz) (hbt : bt ≤ 1000) (hz0 : ∀ u ∈ z.cells.toList, Am u = false) (he : BoxT e) {v : Value} {n : Nat} {xs : List Value} {base : Nat} (hs : a.eval s = v) [hr : Rn W v e sz n xs base w0]
  (hnx : ∀ u ∈ xs, Am u = false) {ad : Addr} {m c : Nat} {l : List Value} (hx : a.eval x = .slice (some ad) m c) (hb : ∀ j u, l[j]? = some u → W.cell? (ad.add j) = some u) (hl : l.length = m * sz) (h1 : ∀ u ∈ l, u.oneCell' = true) (hnl : ∀ u ∈ l, Am u = false) (hm : 0 < m) (hn : n + m ≤ 1000000)
  (hK : ∀ g c W' [Ap1 W W' base w0] [Apn W W'] [Rn W' (.slice (some ⟨g, 0, none⟩) (n + m) c) e sz (n + m) (xs ++ l) base W'], K (a.put o.dst (.slice (some ⟨g, 0, none⟩) (n + m) c)) W') :
  Oper.wp Tryz.prog o a W K Q := by
 obtain ⟨i0, hi0⟩ : ∃ i0, Tryz.prog.info? e = some i0 := by
  cases h : Tryz.prog.info? e with
  | none => rw [h] at hi; cases hi
  | some i0 => exact ⟨i0, rfl⟩
 rw [hi0] at hi; simp only [Option.map_some, Option.some.injEq, Prod.mk.injEq] at hi; obtain ⟨hz, hsz', hbt'⟩ := hi
 have hby : (n + m) * bt ≤ 140737488355328 := by
  have : (n + m) * bt ≤ 1000000 * 1000 := Nat.mul_le_mul hn hbt
  omega
 have hmx : n + m ≤ maxLen := by unfold maxLen; omega
 obtain ⟨v', w', hrun, h2, h3, h4⟩ := run_append_own (P := Tryz.prog) W base t o.type e i0 z sz bt ht hi0 hz hsz' hbt' hzs hsz v n xs hr.rw'.out ad m c l hl hb h1 hmx hby hr.rw'.hb
 have hsoft := J7 (P := Tryz.prog) W t o.type e i0 z ht hi0 hz he (base := base) (by rw [hsz']; exact hr.rw'.out) hr.nd hnx ad m c l (by rw [hsz']; exact hl) hb h1 hnl hz0 hmx (by rw [hbt']; exact hby) hrun
 unfold Oper.wp execOp
 simp only [hop, resolve, invoke, builtin, Sem.run_bind, Sem.run_pure, Result.andThen_ok, List.map_toArray, List.map_cons, List.map_nil, hs, hx, hrun]
 have hne : v' ≠ .slice none 0 0 := fun e => by have := (h4.1 e).2; omega
 rcases h2.2 with ⟨e', _⟩ | ⟨g, cap, cur, e', _⟩
 ·exact absurd e' hne
 ·subst e'
  have i1 : Ap1 W w' base w0 := ⟨⟨_, h3, fun k hk => ⟨(hr.rw'.out.lt k hk).1, hr.rw'.lt k hk⟩⟩⟩
  have i2 : Apn W w' := ⟨⟨_, h3, hr.nd⟩⟩
  have i3 : Rn w' (.slice (some ⟨g, 0, none⟩) (n + m) cap) e sz (n + m) (xs ++ l) base w' := ⟨Rw.mk1 h2 (Nat.le_trans hr.rw'.hb h3.size), hsoft⟩
  exact @hK g cap w' i1 i2 i3
theorem Rn.put {g n c sz : Nat} {e : TypeId} {xs ys Z Z' : List Value} (h : Rn W (.slice (some ⟨g, 0, none⟩) n c) e sz n xs base w0) (h0 : Bx W g e (xs ++ Z)) (hs : W.heap.size ≤ W2.heap.size) (hb : Bx W2 g e (ys ++ Z')) (hl : (ys ++ Z').length = (xs ++ Z).length) (hy : ys.length = n * sz) (hd : SoftB W2 g) : Rn W2 (.slice (some ⟨g, 0, none⟩) n c) e sz n ys base W2 := by
 refine ⟨Rw.mk1 ⟨hy, ?_⟩ (Nat.le_trans h.rw'.hb (Nat.le_trans (Nat.le_refl _) hs)), fun k hk => by cases hk; exact hd⟩
 rcases h.rw'.out.2 with ⟨e1, _⟩ | ⟨g', c', cur, e1, hb', hc, hn, hm, hsz, htk⟩
 ·cases e1
 ·cases e1
  refine .inr ⟨_, _, _, rfl, hb', hb.out, hn, hm, ?_, ?_⟩
  ·rw [h0.out] at hc
   cases hc
   simp only [List.size_toArray] at hsz ⊢
   rw [hl]; exact hsz
  ·simp [← hy]
theorem N1 (g j : Nat) : (⟨g, 0, none⟩ : Addr).add j = ⟨g, j, none⟩ := by unfold Addr.add; split <;> simp_all
theorem Bx.softT {q b : Nat} {l : List Value} (h : Bx W b 179 l) (s : SoftB W q) : b ≠ q := fun e => by
 subst e; obtain ⟨t, l', h1, h2, _⟩ := s.out
 have h3 := h.out
 rw [h1] at h3
 injection h3 with h3
 injection h3 with _ h4
 exact h2.tree h4
instance (priority := low) Bx.apnT {b : Nat} {l : List Value} [k : Apn W W2] [h : Bx W b 179 l] : Bx W2 b 179 l := ⟨by
 obtain ⟨r, g, p⟩ := k.out
 rw [g.block b h.lt (fun e => h.softT (p b e.symm) rfl)]; exact h.out⟩
instance (priority := low) Bx.stT {q i b : Nat} {x : Value} {l : List Value} [s : SoftB W q] [h : Bx W b 179 l] : Bx (W.setCell ⟨q, i, none⟩ x) b 179 l := ⟨by
 simp only [World.setCell, Array.getElem?_modify]
 rw [if_neg (fun e => h.softT s e.symm)]; exact h.out⟩
instance (priority := low) Bx.sfT {b : Nat} {l : List Value} [k : Sf1 W W2] [h : Bx W b 179 l] : Bx W2 b 179 l := ⟨by
 rcases k.soft b h.lt with e | e
 ·rw [e]; exact h.out
 ·exact absurd rfl (h.softT e)⟩
theorem Va {V : List NW} {Z : List Value} {p j : Nat} (h : p < V.length) (hj : j < 8) : (rowN V ++ Z)[p * 8 + j]? = (nV V p).c'[j]? := by
 rw [List.getElem?_append_left (by rw [S3]; omega), Ha h, rowN, F9 NW.len V p j h hj]
theorem Qj3 (D A : List Nd) (l : LQ) (p q : Int) : G4 (D ++ ⟨l, 0, 0⟩ :: A) D.length p q = D ++ ⟨l, p, q⟩ :: A := by
 have e : nD (D ++ ⟨l, 0, 0⟩ :: A) D.length = ⟨l, 0, 0⟩ := by rw [He (by simp)]; simp
 unfold G4; rw [e, List.set_append_right _ _ (Nat.le_refl _)]; simp
def ApL (w : World) (l : LQ) (e : Ending) (w' : World) : Prop := ∃ x y z : ZV, e = .returned (.agg #[.bool x.g, .slice x.a x.l x.c, .bool y.g, .slice y.a y.l y.c, .bool z.g, .slice z.a z.l z.c]) ∧ CZ w' (.agg #[.bool x.g, .slice x.a x.l x.c]) l.a.num 150 ∧ CZ w' (.agg #[.bool y.g, .slice y.a y.l y.c]) l.b.num 150 ∧ CZ w' (.agg #[.bool z.g, .slice z.a z.l z.c]) l.c.num 150 ∧ Below w.heap.size w w'
theorem Qbt {P : Program} {f : FuncId} {args : Array Value} {w : World} {l : LQ} {K : Ending → World → Prop} (h : Calls P f args w (ApL w l))
  (hK : ∀ w' [Kp1 w w'] (x y z : ZV) [CZ w' (.agg #[.bool x.g, .slice x.a x.l x.c]) l.a.num 150] [CZ w' (.agg #[.bool y.g, .slice y.a y.l y.c]) l.b.num 150] [CZ w' (.agg #[.bool z.g, .slice z.a z.l z.c]) l.c.num 150], K (.returned (.agg #[.bool x.g, .slice x.a x.l x.c, .bool y.g, .slice y.a y.l y.c, .bool z.g, .slice z.a z.l z.c])) w') : Calls P f args w K := by
 refine h.mono ?_
 rintro e w' ⟨x, y, z, rfl, h1, h2, h3, h4⟩
 exact @hK w' ⟨h4⟩ x y z h1 h2 h3
theorem Qca {w : World} {v : LV} {l : LQ} [h : Lk w v l] : Calls Tryz.prog 90 #[.agg #[.int .i64 v.x.n, .int .i64 v.x.d, .pointer v.x.p, .int .i64 v.y.n, .int .i64 v.y.d, .pointer v.y.p, .int .i64 v.z.n, .int .i64 v.z.d, .pointer v.z.p]] w (ApL w l) := by
 have := h.x; have := h.y; have := h.z
 refine (Qkc (by decide)).mono ?_
 rintro e w' ⟨gx, ax, lx, cx, gy, ay, ly, cy, gz, az, lz, cz, rfl, hx, hy, hz, hb⟩
 exact ⟨⟨gx, ax, lx, cx⟩, ⟨gy, ay, ly, cy⟩, ⟨gz, az, lz, cz⟩, rfl, hx, hy, hz, hb⟩
def R6 (w : World) (base bo : Nat) (r0 c : Int) (D : List Nd) (e : Ending) (w' : World) : Prop := ∃ v V, e = .returned (.int .i64 c) ∧ Rn w' v 184 8 V.length (rowN V) base w' ∧ Cn w' V D ∧ Bx w' bo 61 [.int .i64 r0, v] ∧ Wr w w' base bo
theorem Rf {P : Program} {f : FuncId} {args : Array Value} {w : World} {base bo : Nat} {r0 c : Int} {D : List Nd} {K : Ending → World → Prop} (h : Calls P f args w (R6 w base bo r0 c D))
  (hK : ∀ w' [Wr1 w w' base bo] (v : Value) (V : List NW) [Rn w' v 184 8 V.length (rowN V) base w'] [Cn w' V D] [Bx w' bo 61 [.int .i64 r0, v]], K (.returned (.int .i64 c)) w') : Calls P f args w K := by
 refine h.mono ?_
 rintro e w' ⟨v, V, rfl, h1, h2, h3, h4⟩
 exact @hK w' ⟨h4⟩ v V h1 h2 h3
theorem Qcp : (Tryz.prog.info? 184).map (fun i => (i.zero, i.size, i.bytes)) = some (some (.agg #[.bool false, .slice none 0 0, .bool false, .slice none 0 0, .bool false, .slice none 0 0, .int .i64 0, .int .i64 0]), 8, 112) := by kernel_rfl
theorem Ql7 {bt : Nat} (h1 : LtN bo base) (h2 : LtN bt base) (h3 : NeN bt bo) {t : Tr} : ∀ {w w0 : World} {b : Nat} {r0 : Int} {v : Value} {V : List NW} {D : List Nd} [ht : Tk w b t] [ib : Bx w bo 61 [.int .i64 r0, v]] [hv : Rn w v 184 8 V.length (rowN V) base w0] [hn : Cn w V D] [bc : Bx w bt 177 [.func (.func 88) #[] #[.pointer (some ⟨bo, 0, none⟩), .pointer (some ⟨bt, 0, none⟩)]]],
    V.length + t.size ≤ 65536 → Calls Tryz.prog 88 #[.pointer (some ⟨b, 0, none⟩), .pointer (some ⟨bo, 0, none⟩), .pointer (some ⟨bt, 0, none⟩)] w (R6 w base bo r0 (code t D.length) (D ++ A4 t D.length)) := by
  have h4 : NeN bo bt := ⟨fun e => h3.out e.symm⟩
  induction t with
  | leaf i =>
    intro w w0 b r0 v V D ht ib hv hn bc hV
    have hv' := hv.here
    clear hv; obtain ⟨vl, hb⟩ := ht.leaf; go_enter Tryz.func88, Tryz.ntmps88
    cases i
    all_goals (go_wp2_with (first | (go_at_call 89; refine Aa (Dq) ?_; intros)); go_ret; exact ⟨v, V, rfl, (ii : Rn _ v _ _ _ _ base w).here, (by simp only [A4, List.append_nil]; exact ii), ii, ii⟩)
  | node l x y ihx ihy =>
    intro w w0 b r0 v V D ht ib hv hn bc hV; obtain ⟨vl, b1, b2, hb, k1, k2, k3⟩ := ht.node; obtain ⟨a, c, rfl⟩ := hv.slice; simp only [Tr.size] at hV; go_enter Tryz.func88, Tryz.ntmps88
    go_wp2_with (first | (go_at_call 89; refine Aa (Da) ?_; intros))
    refine rgn [] [9, 10, 11] fun hH => ?_; refine tkW 0 [1, 9, 10, 11] hH ?_; refine tk 1 hH ?_; refine tkW 2 [3, 4, 5, 6, 7, 8, 9, 10, 11] hH ?_; refine tkW 3 [4, 5, 6, 7, 8, 9, 10, 11] hH ?_; refine tkW 4 [5, 6, 7, 8, 9, 10, 11] hH ?_; refine tkW 5 [6, 7, 8, 9, 10, 11] hH (st 6 fun K hK => ?_); go_simp; refine Qbt (Qca (v := vl)) ?_; intro w5 _ x5 y5 z5 _ _ _; refine hd hK fun hH => ?_; refine tkW 7 [8, 9, 10, 11] hH (st 8 fun K hK => ?_); go_simp; refine hd hK fun hH => st 9 fun K hK => ?_; rw [if_pos (by rfl)]
    refine Nj (v := .slice a V.length c) (.tmp 18) (.tmp 25) 59 rfl Tryz.underlying59 Qcp rfl (by decide) (by decide) (by decide) ii rfl (Ul _) rfl (l := NW.c' ⟨x5, y5, z5, 0, 0⟩) (fun j u hu => by rw [N1, B8]; exact hu) rfl (NW.one _) (NW.nd _) (by decide) (by omega) ?_
    intro g6 c6 W6 k6 k6n i6; refine hdT hK ?_; clear hK K; refine tk0 10 (st 11 fun K hK => ?_); go_simp; refine hdT hK ?_; clear hK K; refine dn ?_; clear hH
    skip
    go_wp2_with fail
    have hc6 : Cn W6 (V ++ [⟨x5, y5, z5, 0, 0⟩]) (D ++ [⟨l, 0, 0⟩]) := Cn.snoc ii ⟨ii, ii, ii, rfl, rfl⟩
    have h6 : Rn W6 (.slice (some ⟨g6, 0, none⟩) (V.length + 1) c6) 184 8 (V ++ [(⟨x5, y5, z5, 0, 0⟩ : NW)]).length (rowN (V ++ [(⟨x5, y5, z5, 0, 0⟩ : NW)])) base W6 := i6.cast2 (by simp) (Qmo _ _).symm
    clear i6; obtain ⟨V6, hV6⟩ : ∃ x, V ++ [(⟨x5, y5, z5, 0, 0⟩ : NW)] = x := ⟨_, rfl⟩; rw [hV6] at hc6 h6
    have e6 : V.length + 1 = V6.length := by rw [← hV6]; simp
    rw [e6] at h6; rw [e6]
    have ib6 : Bx (W6.setCell ⟨bo, 1, none⟩ (.slice (some ⟨g6, 0, none⟩) V6.length c6)) bo 61 [.int .i64 r0, .slice (some ⟨g6, 0, none⟩) V6.length c6] := Bx.re (h := Bx.setS (h := (ii : Bx W6 bo 61 [.int .i64 r0, .slice a V.length c]))) rfl
    have hVD : V.length = D.length := hn.len
    have el : (D ++ [(⟨l, 0, 0⟩ : Nd)]).length = D.length + 1 := by simp
    have hVDh := Lib.hid hVD; have e6h := Lib.hid e6; have elh := Lib.hid el; clear hVD e6 el hV6; refine rgn [] [5, 6] fun hH => ?_; refine tk 0 hH ?_; refine tkW 1 [2, 3, 4, 5, 6] hH ?_; refine tkW 2 [3, 4, 5, 6] hH ?_; refine tkW 3 [4, 5, 6] hH ?_; refine tk 4 hH (st 5 fun K hK => ?_); go_simp
    (refine Rf (ihx (D := D ++ [⟨l, 0, 0⟩]) (by have := e6h.out; omega)) ?_); intro w7 _ v7 V7 i71 i72 i73
    refine hdT hK ?_; clear hK K; refine tk0 6 (dn ?_); clear hH
    skip
    have el7 := Lib.hid (Px x (D ++ [(⟨l, 0, 0⟩ : Nd)]).length); obtain ⟨D7, hD7⟩ : ∃ z, D ++ [(⟨l, 0, 0⟩ : Nd)] ++ A4 x (D ++ [(⟨l, 0, 0⟩ : Nd)]).length = z := ⟨_, rfl⟩
    have c7 : Cn w7 V7 D7 := hD7 ▸ i72
    have hD7h := Lib.hid hD7; clear hD7 i72
    have l7 : Hid (V7.length = D.length + 1 + x.size) := Lib.hid (by rw [c7.len, ← hD7h.out, List.length_append, el7.out, elh.out])
    go_wp2_with fail; refine rgn [] [5, 6] fun hH => ?_; refine tk 0 hH ?_; refine tkW 1 [2, 3, 4, 5, 6] hH ?_; refine tkW 2 [3, 4, 5, 6] hH ?_; refine tkW 3 [4, 5, 6] hH ?_; refine tk 4 hH (st 5 fun K hK => ?_); go_simp
    (refine Rf (ihy (D := D7) (by have := l7.out; have := hVDh.out; omega)) ?_); intro w8 _ v8 V8 i81 i82 i83
    refine hdT hK ?_; clear hK K; refine tk0 6 (dn ?_); clear hH
    skip
    obtain ⟨D8, hD8⟩ : ∃ z, D7 ++ A4 y D7.length = z := ⟨_, rfl⟩
    have c8 : Cn w8 V8 D8 := hD8 ▸ i82
    have hD8h := Lib.hid hD8; clear hD8 i82
    have l8 : V.length < V8.length := by rw [c8.len, ← hD8h.out, List.length_append, ← c7.len, l7.out]; have := hVDh.out; omega
    have l8h : LtN V.length V8.length := ⟨l8⟩; obtain ⟨a8, k8, rfl⟩ := i81.slice
    rcases i81.cases with ⟨e0, e1, _⟩ | ⟨g8, rfl, _⟩
    · omega
    have hb8 : LeB base g8 := ⟨(i81.rw'.out.lt g8 rfl).1⟩
    have nb8 : NeN bo g8 := ⟨by have := h1.out; have := hb8.out; omega⟩
    have nb9 : NeN g8 bo := ⟨by have := h1.out; have := hb8.out; omega⟩
    obtain ⟨Z, hbx, hZ⟩ := Rn.boxed i81
    have hZl : Ndl Z := ⟨hZ⟩
    go_wp2_with fail
    have f6 : (rowN V8 ++ Z)[V.length * 8 + 6]? = some (.int .i64 (nV V8 V.length).left) := Va l8 (by decide)
    have f7 : (rowN V8 ++ Z)[V.length * 8 + 7]? = some (.int .i64 (nV V8 V.length).right) := Va l8 (by decide)
    refine rgn [g8] [] fun hH => ?_; refine tk 0 hH ?_; refine tk 1 hH ?_; refine tk 2 hH ?_; refine tk 3 hH ?_; refine tk 4 hH ?_; refine tk 5 hH ?_; refine tk 6 hH ?_; refine tk 7 hH ?_; refine tk 8 hH ?_; refine tk 9 hH (st 10 fun K hK => ?_); go_simp; refine hd hK fun hH => ?_; refine tk 11 hH ?_; refine tk 12 hH (st 13 fun K hK => ?_); go_simp; refine hd hK fun hH => dn ?_; clear hH
    skip
    go_wp2_with fail; go_ret
    have hs9 := Qhn V8 Z (code x (D.length + 1)) (code y D7.length) V.length l8
    refine ⟨.slice (some ⟨g8, 0, none⟩) V8.length k8, Fi V8 V.length (code x (D.length + 1)) (code y D7.length), by rw [hVDh.out]; rfl, ?_, ?_, ii, ii⟩
    · rw [Mw]
      exact Rn.put i81 hbx (ii : Kz w8 _).out (Bx.re (h := ii) hs9) (by rw [← hs9]; simp) (by rw [S3, Mw]) ii
    · have e9 : G4 D8 V.length (code x (D.length + 1)) (code y D7.length) = D ++ A4 (.node l x y) D.length := by
        have e0 : D7.length = D.length + 1 + x.size := by rw [← c7.len]; exact l7.out
        rw [hVDh.out, ← hD8h.out, ← hD7h.out]; rw [← hD7h.out, elh.out] at e0; rw [elh.out]; rw [List.append_assoc, List.append_assoc, List.singleton_append, Qj3]; simp only [A4]; rw [← e0]
      rw [← e9]; exact Cn.set ii l8 _ _
instance (priority := low) Kp.wr [k : Wr1 W W2 base bo] [g1 : Gg w base] [g2 : Gg w bo] [h : Kp w W] : Kp w W2 := ⟨⟨k.out.os.trans h.out.os, k.out.tape.trans h.out.tape, k.out.output.trans h.out.output, Nat.le_trans h.out.size k.out.size, fun j hj => by
 rcases k.out.blk j (Nat.lt_of_lt_of_le hj h.out.size) with e | ⟨_, e⟩
 ·rw [e]; exact h.out.block j hj
 ·have := g1.out; have := g2.out; omega⟩⟩
def ApT (w : World) (t : Tr) (e : Ending) (w' : World) : Prop := ∃ (a : Option Addr) (c : Nat) (V : List NW), e = .returned (.agg #[.int .i64 (code t 0), .slice a V.length c]) ∧ Sl w' (.slice a V.length c) V.length (rowN V) w' ∧ Cn w' V (A4 t 0) ∧ Below w.heap.size w w'
theorem Qh {P : Program} {f : FuncId} {args : Array Value} {w : World} {t : Tr} {K : Ending → World → Prop} (h : Calls P f args w (ApT w t))
  (hK : ∀ w' [Kp1 w w'] (a : Option Addr) (c : Nat) (V : List NW) [Sl w' (.slice a V.length c) V.length (rowN V) w'] [Cn w' V (A4 t 0)], K (.returned (.agg #[.int .i64 (code t 0), .slice a V.length c])) w') : Calls P f args w K := by
 refine h.mono ?_
 rintro e w' ⟨a, c, V, rfl, h1, h2, h3⟩
 exact @hK w' ⟨h3⟩ a c V h1 h2
theorem Qfi {w : World} {bt : Nat} (h1 : LtN bo base) (h2 : LtN bt base) (h3 : NeN bt bo) (hb : base ≤ w.heap.size) {b : Nat} {t : Tr} [ht : Tk w b t] [ib : Bx w bo 61 [.int .i64 0, .slice none 0 0]] [bc : Bx w bt 177 [.func (.func 88) #[] #[.pointer (some ⟨bo, 0, none⟩), .pointer (some ⟨bt, 0, none⟩)]]] (hs : t.size ≤ 65536) :
  Calls Tryz.prog 88 #[.pointer (some ⟨b, 0, none⟩), .pointer (some ⟨bo, 0, none⟩), .pointer (some ⟨bt, 0, none⟩)] w (R6 w base bo 0 (code t 0) (A4 t 0)) := by
 have hv : Rn w (.slice none 0 0) 184 8 ([] : List NW).length (rowN []) base w := Rn.nil hb
 have hn : Cn w [] [] := Cn.nil
 have h := Ql7 (r0 := 0) (V := []) (D := []) h1 h2 h3 (t := t) (b := b) (w := w) (by simpa using hs)
 simpa using h
theorem Q5 {w : World} {b : Nat} {t : Tr} [ht : Tk w b t] (hs : t.size ≤ 65536) : Calls Tryz.prog 45 #[.pointer (some ⟨b, 0, none⟩)] w (ApT w t) := by
 have hmf : ∀ (fn : Fn) (first cap : Array Value) (w : World), (Instr.makeFunc fn first cap).run Tryz.prog w = .ok (.func fn first cap) w := fun _ _ _ _ => rfl
 have l1 : LtN (w.heap.size + 1) (w.heap.size + 1 + 1 + 1) := ii
 have l2 : LtN (w.heap.size + 1 + 1) (w.heap.size + 1 + 1 + 1) := ii
 have l3 : NeN (w.heap.size + 1 + 1) (w.heap.size + 1) := ii
 go_enter Tryz.func45, Tryz.ntmps45
 go_wp2_with (first | (go_at_call 88; refine Rf (Qfi (base := w.heap.size + 1 + 1 + 1) (bo := w.heap.size + 1) (bt := w.heap.size + 1 + 1) l1 l2 l3 (by simp only [World.size_alloc]; omega) hs) ?_; intro w5 _ v5 V5 i51 i52 i53; obtain ⟨a5, c5, rfl⟩ := i51.slice))
 refine Ac rfl Tryz.underlying61 rfl (by kernel_rfl) rfl rfl rfl ?_; exact ⟨a5, c5, V5, rfl, (ii : Rn _ (.slice a5 V5.length c5) 184 8 V5.length (rowN V5) _ w5).rw'.sl.here, ii, (ii : Kp w _).out⟩
end
end Go.Proofs.YtpnpnlmlamfpmaaGreatDoor
