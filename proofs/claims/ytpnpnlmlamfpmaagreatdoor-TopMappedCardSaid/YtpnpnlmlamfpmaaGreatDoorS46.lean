import Derived.Test.YtpnpnlmlamfpmaaGreatDoorS44
import Derived.Test.YtpnpnlmlamfpmaaGreatDoorS45
namespace Go.Proofs.YtpnpnlmlamfpmaaGreatDoor
set_option linter.unusedSimpArgs false
set_option linter.unusedVariables false
set_option maxHeartbeats 4000000
set_option maxRecDepth 100000
set_option synthInstance.maxHeartbeats 1000000
set_option synthInstance.maxSize 100000
open Go.RowKit Cel
theorem Qb0 (E : List FQ) (p : Rat × Rat) : -(E.length : Int) ≤ Ao E p ∧ Ao E p ≤ E.length := by
 induction E with
 | nil => exact ⟨Int.le_refl _, Int.le_refl _⟩
 | cons e E ih =>
  have h := Zv e p
  have e1 : Ao (e :: E) p = Eb e p + Ao E p := by unfold Ao; rw [List.map_cons, List.sum_cons]
  rw [e1, List.length_cons]; omega
theorem img_depth {f : LQ → LQ} {t : Tr} : (t.img f).depth = t.depth := by induction t with
 | leaf => rfl
 | node l x y ihx ihy => simp only [Tr.img, Tr.depth, ihx, ihy]
structure SmF (R : List (List (Rat × Rat))) (m : Aff) : Prop where
 ok : ∀ L ∈ R, Rok L
 ok' : ∀ L ∈ R.map (List.map m.to), Rok L
 len : (Aj R).length ≤ 15
 len' : (Aj (R.map (List.map m.to))).length ≤ 15
 six : ∀ L ∈ R, Hx (L.map m.to)
 r : ∀ L ∈ R, RingOK L
 r' : ∀ L ∈ R.map (List.map m.to), RingOK L
 sm : ∀ fill, ∀ l ∈ (Cg fill R).lines, ShL l ∧ ShL (Bb m l)
 sh : ∀ fill, ∀ l ∈ (Cg fill (R.map (List.map m.to))).lines, ShL l
variable {m : Aff}
theorem SmF.of {R : List (List (Rat × Rat))} (hd : m.det ≠ 0) (hm : Kq m) (hR : SmR R) (hl : R.length ≤ 2) : SmF R m := by
 have hr : ∀ L ∈ R, RingOK L := fun L h => (hR L h).1
 have hi : ∀ L ∈ R, Cr L := fun L h => (hR L h).2.1
 have hr' : ∀ L ∈ R.map (List.map m.to), RingOK L := fun L h => by obtain ⟨M, h1, rfl⟩ := List.mem_map.1 h; exact (hr M h1).to hd
 have hs : ∀ L ∈ R.map (List.map m.to), Hx L := fun L h => by obtain ⟨M, h1, rfl⟩ := List.mem_map.1 h; exact (hi M h1).to hm
 have h6 : (R.map List.length).sum ≤ 6 * R.length := by
  clear hl hs hr' hi hr
  induction R with
  | nil => simp
  | cons L R ih =>
   have := ih (fun M h => hR M (by simp [h]))
   have := (hR L (by simp)).2.2
   simp only [List.map_cons, List.sum_cons, List.length_cons]; omega
 have hE : (Aj R).length ≤ 15 := by rw [Le]; omega
 have hl900 : ∀ L ∈ R, L.length ≤ 900 := fun L h => Nat.le_trans (hR L h).2.2 (by decide)
 refine ⟨fun L h => ⟨hr L h, (hi L h).six.tight (hr L h), hl900 L h⟩, fun L h => ⟨hr' L h, (hs L h).tight (hr' L h), ?_⟩, hE, by rw [Qik]; exact hE, fun L h => (hi L h).to hm, hr, hr', fun fill => ?_, fun fill => Nv hr' (Qd0 hr' hs)⟩
 ·obtain ⟨M, h1, rfl⟩ := List.mem_map.1 h
  rw [List.length_map]; exact hl900 M h1
 ·exact Nv hr (P := fun l => ShL l ∧ ShL (Bb m l)) (fun e he => ⟨(Rt hr hi e he).sh, Qi8 hd hm (Rt hr hi e he)⟩)
variable {W : World}
theorem PsA.six {V : List AV} {L : List (Rat × Rat)} {k : Nat} (h : PsA W V L k) (s : Hx L) : PsA W V L 1 := ⟨h.len, fun i hi => by
 have := (s i (by rw [← h.len]; exact hi)).1.sm (by decide)
 exact (h.x i hi).sm this.1 this.2, fun i hi => by
 have := (s i (by rw [← h.len]; exact hi)).2.sm (by decide)
 exact (h.y i hi).sm this.1 this.2⟩
theorem MkQ.mk' {v : MW} {ka kb kc kd ke kf : Nat} [a : CA W (.agg #[.bool v.a.g, .slice v.a.a v.a.l v.a.c, .slice v.a.b v.a.m v.a.d]) m.A ka] [b : CA W (.agg #[.bool v.b.g, .slice v.b.a v.b.l v.b.c, .slice v.b.b v.b.m v.b.d]) m.B kb] [c : CA W (.agg #[.bool v.c.g, .slice v.c.a v.c.l v.c.c, .slice v.c.b v.c.m v.c.d]) m.C kc] [d : CA W (.agg #[.bool v.d.g, .slice v.d.a v.d.l v.d.c, .slice v.d.b v.d.m v.d.d]) m.D kd] [e : CA W (.agg #[.bool v.e.g, .slice v.e.a v.e.l v.e.c, .slice v.e.b v.e.m v.e.d]) m.E ke] [f : CA W (.agg #[.bool v.f.g, .slice v.f.a v.f.l v.f.c, .slice v.f.b v.f.m v.f.d]) m.F kf] (h : ka ≤ 20 ∧ kb ≤ 20 ∧ kc ≤ 20 ∧ kd ≤ 20 ∧ ke ≤ 20 ∧ kf ≤ 20) : Mk W v m :=
 ⟨a.cast rfl h.1, b.cast rfl h.2.1, c.cast rfl h.2.2.1, d.cast rfl h.2.2.2.1, e.cast rfl h.2.2.2.2.1, f.cast rfl h.2.2.2.2.2⟩
theorem topMapped_walk (a0 : Option Addr) (len0 cap0 : Nat) (z0 : List Int) (w : World) (w0 : Oj .i64 w a0 len0 cap0 z0) (hL : laidMetH Tryz.prog laidT w) :
  Calls Tryz.prog 3 #[.slice a0 len0 cap0] w fun e w' => e = .returned (.bool true) ∧ Below w.heap.size w w' := by
 obtain ⟨aR, sR⟩ := Qkn hL; clear hL; go_enter Tryz.func3, Tryz.ntmps3; go_wp2_with fail
 refine Qmc (Qgu w0) ?_
 intro W0 _ _
 have hts : w.heap.size < W0.heap.size := (ii : Ct W0 w.heap.size).out.lt
 go_wp2_with fail
 refine Qft Qkr ?_
 intro W1 _ _ v m km hm; go_wp2_with fail
 refine Qln Qby ?_
 intro W2 _ _ a2 c2 U2 R s2 p2 h2
 have hR2 : R.length ≤ 2 := by rw [← p2.len]; exact h2.out.2
 have hSm : ∀ L ∈ R, RingOK L ∧ Cr L ∧ L.length ≤ 6 := h2.out.1
 have hU2 : U2.length ≤ 2 := h2.out.2
 go_wp2_with fail
 refine Qbv (Qce (U := U2) (k := 4) (by decide) (by omega) (fun L h => by have := (hSm L h).2.2; omega)) ?_
 intro W3 _ a3 c3 U s3 p3 o3; have ltb : LtN w.heap.size W2.heap.size := ⟨(ii : Ct W2 w.heap.size).out.lt⟩; go_wp2_with fail
 refine D6 (D5 (by omega)) ?_
 intro W4 _ _ f4 hf0 hf1
 have ef : IntKind.i64.wrap (1 + f4) = 1 + f4 := Ap (by omega) (by omega)
 obtain ⟨fill, hfl⟩ : ∃ fill, 1 + f4 = fill := ⟨_, rfl⟩; have hfill : fill = 1 ∨ fill = 2 := (by omega); rw [hfl] at ef; go_wp2_with fail
 refine Qew Qc4 ?_
 intro W5 _ _ gx ax lx cx bx mx ex gy ay ly cy by' my ey x y ix iy
 have s5 : Sl W5 (.slice a3 U.length c3) U.length (Bt U) W5 := Sl.here (w0 := W3) ii
 have p5 : RsA W5 U R 5 W5 := RsA.here (w0 := W3) ii
 clear s3 p3 o3 s2 p2; obtain ⟨z, hz⟩ : ∃ z, isgn m.det.num = z := ⟨_, rfl⟩; have HZ := Lib.hid hz
 by_cases h0 : z = 0
 ·subst h0; clear hz
  go_wp2_with (first
   | refine A0 (t := 32) (x := .tmp 4) rfl rfl rfl (Bc Tryz.underlying32 rfl (by kernel_rfl)) ?_
   | (go_at_call 11; refine A3 (I9 (v := v)) ?_; intros)
   | (go_at_call 10; refine Aa (Gc HZ) ?_; intro W6 _)
   | (go_at_call 12; refine Aa Jp ?_; intros))
  go_ret; exact E.fin rfl
 have hdet : m.det ≠ 0 := fun e => h0 (by rw [← hz, e]; rfl)
 have hz0 : (z == 0) = false := beq_eq_false_iff_ne.2 h0
 have hF := SmF.of hdet hm.out h2.out.1 hR2
 clear hz h0
 go_upto_region 6 with (first
  | refine A0 (t := 32) (x := .tmp 4) rfl rfl rfl (Bc Tryz.underlying32 rfl (by kernel_rfl)) ?_
  | (go_at_call 11; refine A3 (I9 (v := v)) ?_; intros)
  | (go_at_call 10; refine Aa (Gc HZ) ?_; intro W6 _))
 go_cut [8] from 43 to 61 (fun s8 wx => ∃ (b8 : Nat) (v8 : MW), s8 = .pointer (some ⟨b8, 0, none⟩) ∧ Bx wx b8 52 [.bool v8.a.g, .slice v8.a.a v8.a.l v8.a.c, .slice v8.a.b v8.a.m v8.a.d, .bool v8.b.g, .slice v8.b.a v8.b.l v8.b.c, .slice v8.b.b v8.b.m v8.b.d, .bool v8.c.g, .slice v8.c.a v8.c.l v8.c.c, .slice v8.c.b v8.c.m v8.c.d, .bool v8.d.g, .slice v8.d.a v8.d.l v8.d.c, .slice v8.d.b v8.d.m v8.d.d, .bool v8.e.g, .slice v8.e.a v8.e.l v8.e.c, .slice v8.e.b v8.e.m v8.e.d, .bool v8.f.g, .slice v8.f.a v8.f.l v8.f.c, .slice v8.f.b v8.f.m v8.f.d] ∧ Mk wx v8 m ∧ Kp W6 wx)
 case first =>
  have km' : MkQ W6 v m := ii
  have := km'.a; have := km'.b; have := km'.c; have := km'.d; have := km'.e; have := km'.f
  refine rgn [W6.heap.size] [] fun hH => ?_; refine tk 0 hH ?_; refine tk 1 hH ?_; refine tk 3 hH ?_; refine tk 4 hH ?_; refine tk 6 hH ?_; refine tk 7 hH ?_; refine tk 9 hH ?_; refine tk 10 hH ?_; refine tk 12 hH ?_; refine tk 13 hH ?_; refine tk 15 hH ?_; refine tk 16 hH ?_; refine Az (rs := [2, 19]) (by kernel_rfl) (by simp) ?_; refine Lm.cons (by simp; rfl) (fun K hK => ?_) (Lm.cons (by simp; rfl) (fun K hK => ?_) Lm.nil)
  ·go_simp; refine A9 (Bj (by decide)) ?_; intro y2 _ g2 a2 l2 c2 aa2 ll2 cc2 _; refine hd hK fun hH => ?_; refine Az (rs := [5, 19]) (by kernel_rfl) (by simp) ?_; refine Lm.cons (by simp; rfl) (fun K hK => ?_) (Lm.cons (by simp; rfl) (fun K hK => ?_) Lm.nil)
   ·go_simp; refine A9 (Bj (by decide)) ?_; intro y5 _ g5 a5 l5 c5 aa5 ll5 cc5 _; refine hd hK fun hH => ?_; refine Az (rs := [8, 19]) (by kernel_rfl) (by simp) ?_; refine Lm.cons (by simp; rfl) (fun K hK => ?_) (Lm.cons (by simp; rfl) (fun K hK => ?_) Lm.nil)
    ·go_simp; refine A9 (Bj (by decide)) ?_; intro y8 _ g8 a8 l8 c8 aa8 ll8 cc8 _; refine hd hK fun hH => ?_; refine Az (rs := [11, 19]) (by kernel_rfl) (by simp) ?_; refine Lm.cons (by simp; rfl) (fun K hK => ?_) (Lm.cons (by simp; rfl) (fun K hK => ?_) Lm.nil)
     ·go_simp; refine A9 (Bj (by decide)) ?_; intro y11 _ g11 a11 l11 c11 aa11 ll11 cc11 _; refine hd hK fun hH => ?_; refine Az (rs := [14, 19]) (by kernel_rfl) (by simp) ?_; refine Lm.cons (by simp; rfl) (fun K hK => ?_) (Lm.cons (by simp; rfl) (fun K hK => ?_) Lm.nil)
      ·go_simp; refine A9 (Bj (by decide)) ?_; intro y14 _ g14 a14 l14 c14 aa14 ll14 cc14 _; refine hd hK fun hH => ?_; refine Az (rs := [17, 19]) (by kernel_rfl) (by simp) ?_; refine Lm.cons (by simp; rfl) (fun K hK => ?_) (Lm.cons (by simp; rfl) (fun K hK => ?_) Lm.nil)
       ·go_simp; refine A9 (Bj (by decide)) ?_; intro y17 _ g17 a17 l17 c17 aa17 ll17 cc17 _; refine hd hK fun hH => ?_; refine tk 18 hH (st 19 fun K hK => ?_); go_simp; refine hd hK fun hH => st 20 fun K hK => ?_
        try rw [if_pos (by rfl)]
        refine Bs 52 (.tmp 8) (.tmp 61) rfl rfl rfl (l' := [.bool g2, .slice a2 l2 c2, .slice aa2 ll2 cc2, .bool g5, .slice a5 l5 c5, .slice aa5 ll5 cc5, .bool g8, .slice a8 l8 c8, .slice aa8 ll8 cc8, .bool g11, .slice a11 l11 c11, .slice aa11 ll11 cc11, .bool g14, .slice a14 l14 c14, .slice aa14 ll14 cc14, .bool g17, .slice a17 l17 c17, .slice aa17 ll17 cc17]) rfl (by kernel_rfl) (by rfl) (MW.one ⟨⟨g2, a2, l2, c2, aa2, ll2, cc2⟩, ⟨g5, a5, l5, c5, aa5, ll5, cc5⟩, ⟨g8, a8, l8, c8, aa8, ll8, cc8⟩, ⟨g11, a11, l11, c11, aa11, ll11, cc11⟩, ⟨g14, a14, l14, c14, aa14, ll14, cc14⟩, ⟨g17, a17, l17, c17, aa17, ll17, cc17⟩⟩) (w := W6) ?_
        intro W20 _ _ b20 _ _; refine hd hK fun hH => dn ?_; clear hH; go_wp2_with fail; go_meet; exact ⟨_, ⟨⟨g2, a2, l2, c2, aa2, ll2, cc2⟩, ⟨g5, a5, l5, c5, aa5, ll5, cc5⟩, ⟨g8, a8, l8, c8, aa8, ll8, cc8⟩, ⟨g11, a11, l11, c11, aa11, ll11, cc11⟩, ⟨g14, a14, l14, c14, aa14, ll14, cc14⟩, ⟨g17, a17, l17, c17, aa17, ll17, cc17⟩⟩, rfl, b20, MkQ.mk' (by decide), ii⟩
       ·go_simp; refine hd hK fun hH => st 17 fun K hK => ?_; go_simp; refine A9 (Bj (by decide)) ?_; intro y17 _ g17 a17 l17 c17 aa17 ll17 cc17 _; refine hd hK fun hH => ?_; refine tk 18 hH (st 20 fun K hK => ?_)
        try rw [if_pos (by rfl)]
        refine Bs 52 (.tmp 8) (.tmp 61) rfl rfl rfl (l' := [.bool g2, .slice a2 l2 c2, .slice aa2 ll2 cc2, .bool g5, .slice a5 l5 c5, .slice aa5 ll5 cc5, .bool g8, .slice a8 l8 c8, .slice aa8 ll8 cc8, .bool g11, .slice a11 l11 c11, .slice aa11 ll11 cc11, .bool g14, .slice a14 l14 c14, .slice aa14 ll14 cc14, .bool g17, .slice a17 l17 c17, .slice aa17 ll17 cc17]) rfl (by kernel_rfl) (by rfl) (MW.one ⟨⟨g2, a2, l2, c2, aa2, ll2, cc2⟩, ⟨g5, a5, l5, c5, aa5, ll5, cc5⟩, ⟨g8, a8, l8, c8, aa8, ll8, cc8⟩, ⟨g11, a11, l11, c11, aa11, ll11, cc11⟩, ⟨g14, a14, l14, c14, aa14, ll14, cc14⟩, ⟨g17, a17, l17, c17, aa17, ll17, cc17⟩⟩) (w := W6) ?_
        intro W20 _ _ b20 _ _; refine hd hK fun hH => dn ?_; clear hH; go_wp2_with fail; go_meet; exact ⟨_, ⟨⟨g2, a2, l2, c2, aa2, ll2, cc2⟩, ⟨g5, a5, l5, c5, aa5, ll5, cc5⟩, ⟨g8, a8, l8, c8, aa8, ll8, cc8⟩, ⟨g11, a11, l11, c11, aa11, ll11, cc11⟩, ⟨g14, a14, l14, c14, aa14, ll14, cc14⟩, ⟨g17, a17, l17, c17, aa17, ll17, cc17⟩⟩, rfl, b20, MkQ.mk' (by decide), ii⟩
      ·go_simp; refine hd hK fun hH => st 14 fun K hK => ?_; go_simp; refine A9 (Bj (by decide)) ?_; intro y14 _ g14 a14 l14 c14 aa14 ll14 cc14 _; refine hd hK fun hH => st 17 fun K hK => ?_; go_simp; refine A9 (Bj (by decide)) ?_; intro y17 _ g17 a17 l17 c17 aa17 ll17 cc17 _; refine hd hK fun hH => ?_; refine tk 18 hH (st 20 fun K hK => ?_)
       try rw [if_pos (by rfl)]
       refine Bs 52 (.tmp 8) (.tmp 61) rfl rfl rfl (l' := [.bool g2, .slice a2 l2 c2, .slice aa2 ll2 cc2, .bool g5, .slice a5 l5 c5, .slice aa5 ll5 cc5, .bool g8, .slice a8 l8 c8, .slice aa8 ll8 cc8, .bool g11, .slice a11 l11 c11, .slice aa11 ll11 cc11, .bool g14, .slice a14 l14 c14, .slice aa14 ll14 cc14, .bool g17, .slice a17 l17 c17, .slice aa17 ll17 cc17]) rfl (by kernel_rfl) (by rfl) (MW.one ⟨⟨g2, a2, l2, c2, aa2, ll2, cc2⟩, ⟨g5, a5, l5, c5, aa5, ll5, cc5⟩, ⟨g8, a8, l8, c8, aa8, ll8, cc8⟩, ⟨g11, a11, l11, c11, aa11, ll11, cc11⟩, ⟨g14, a14, l14, c14, aa14, ll14, cc14⟩, ⟨g17, a17, l17, c17, aa17, ll17, cc17⟩⟩) (w := W6) ?_
       intro W20 _ _ b20 _ _; refine hd hK fun hH => dn ?_; clear hH; go_wp2_with fail; go_meet; exact ⟨_, ⟨⟨g2, a2, l2, c2, aa2, ll2, cc2⟩, ⟨g5, a5, l5, c5, aa5, ll5, cc5⟩, ⟨g8, a8, l8, c8, aa8, ll8, cc8⟩, ⟨g11, a11, l11, c11, aa11, ll11, cc11⟩, ⟨g14, a14, l14, c14, aa14, ll14, cc14⟩, ⟨g17, a17, l17, c17, aa17, ll17, cc17⟩⟩, rfl, b20, MkQ.mk' (by decide), ii⟩
     ·go_simp; refine hd hK fun hH => st 11 fun K hK => ?_; go_simp; refine A9 (Bj (by decide)) ?_; intro y11 _ g11 a11 l11 c11 aa11 ll11 cc11 _; refine hd hK fun hH => st 14 fun K hK => ?_; go_simp; refine A9 (Bj (by decide)) ?_; intro y14 _ g14 a14 l14 c14 aa14 ll14 cc14 _; refine hd hK fun hH => st 17 fun K hK => ?_; go_simp; refine A9 (Bj (by decide)) ?_; intro y17 _ g17 a17 l17 c17 aa17 ll17 cc17 _; refine hd hK fun hH => ?_; refine tk 18 hH (st 20 fun K hK => ?_)
      try rw [if_pos (by rfl)]
      refine Bs 52 (.tmp 8) (.tmp 61) rfl rfl rfl (l' := [.bool g2, .slice a2 l2 c2, .slice aa2 ll2 cc2, .bool g5, .slice a5 l5 c5, .slice aa5 ll5 cc5, .bool g8, .slice a8 l8 c8, .slice aa8 ll8 cc8, .bool g11, .slice a11 l11 c11, .slice aa11 ll11 cc11, .bool g14, .slice a14 l14 c14, .slice aa14 ll14 cc14, .bool g17, .slice a17 l17 c17, .slice aa17 ll17 cc17]) rfl (by kernel_rfl) (by rfl) (MW.one ⟨⟨g2, a2, l2, c2, aa2, ll2, cc2⟩, ⟨g5, a5, l5, c5, aa5, ll5, cc5⟩, ⟨g8, a8, l8, c8, aa8, ll8, cc8⟩, ⟨g11, a11, l11, c11, aa11, ll11, cc11⟩, ⟨g14, a14, l14, c14, aa14, ll14, cc14⟩, ⟨g17, a17, l17, c17, aa17, ll17, cc17⟩⟩) (w := W6) ?_
      intro W20 _ _ b20 _ _; refine hd hK fun hH => dn ?_; clear hH; go_wp2_with fail; go_meet; exact ⟨_, ⟨⟨g2, a2, l2, c2, aa2, ll2, cc2⟩, ⟨g5, a5, l5, c5, aa5, ll5, cc5⟩, ⟨g8, a8, l8, c8, aa8, ll8, cc8⟩, ⟨g11, a11, l11, c11, aa11, ll11, cc11⟩, ⟨g14, a14, l14, c14, aa14, ll14, cc14⟩, ⟨g17, a17, l17, c17, aa17, ll17, cc17⟩⟩, rfl, b20, MkQ.mk' (by decide), ii⟩
    ·go_simp; refine hd hK fun hH => st 8 fun K hK => ?_; go_simp; refine A9 (Bj (by decide)) ?_; intro y8 _ g8 a8 l8 c8 aa8 ll8 cc8 _; refine hd hK fun hH => st 11 fun K hK => ?_; go_simp; refine A9 (Bj (by decide)) ?_; intro y11 _ g11 a11 l11 c11 aa11 ll11 cc11 _; refine hd hK fun hH => st 14 fun K hK => ?_; go_simp; refine A9 (Bj (by decide)) ?_; intro y14 _ g14 a14 l14 c14 aa14 ll14 cc14 _; refine hd hK fun hH => st 17 fun K hK => ?_; go_simp; refine A9 (Bj (by decide)) ?_; intro y17 _ g17 a17 l17 c17 aa17 ll17 cc17 _; refine hd hK fun hH => ?_; refine tk 18 hH (st 20 fun K hK => ?_)
     try rw [if_pos (by rfl)]
     refine Bs 52 (.tmp 8) (.tmp 61) rfl rfl rfl (l' := [.bool g2, .slice a2 l2 c2, .slice aa2 ll2 cc2, .bool g5, .slice a5 l5 c5, .slice aa5 ll5 cc5, .bool g8, .slice a8 l8 c8, .slice aa8 ll8 cc8, .bool g11, .slice a11 l11 c11, .slice aa11 ll11 cc11, .bool g14, .slice a14 l14 c14, .slice aa14 ll14 cc14, .bool g17, .slice a17 l17 c17, .slice aa17 ll17 cc17]) rfl (by kernel_rfl) (by rfl) (MW.one ⟨⟨g2, a2, l2, c2, aa2, ll2, cc2⟩, ⟨g5, a5, l5, c5, aa5, ll5, cc5⟩, ⟨g8, a8, l8, c8, aa8, ll8, cc8⟩, ⟨g11, a11, l11, c11, aa11, ll11, cc11⟩, ⟨g14, a14, l14, c14, aa14, ll14, cc14⟩, ⟨g17, a17, l17, c17, aa17, ll17, cc17⟩⟩) (w := W6) ?_
     intro W20 _ _ b20 _ _; refine hd hK fun hH => dn ?_; clear hH; go_wp2_with fail; go_meet; exact ⟨_, ⟨⟨g2, a2, l2, c2, aa2, ll2, cc2⟩, ⟨g5, a5, l5, c5, aa5, ll5, cc5⟩, ⟨g8, a8, l8, c8, aa8, ll8, cc8⟩, ⟨g11, a11, l11, c11, aa11, ll11, cc11⟩, ⟨g14, a14, l14, c14, aa14, ll14, cc14⟩, ⟨g17, a17, l17, c17, aa17, ll17, cc17⟩⟩, rfl, b20, MkQ.mk' (by decide), ii⟩
   ·go_simp; refine hd hK fun hH => st 5 fun K hK => ?_; go_simp; refine A9 (Bj (by decide)) ?_; intro y5 _ g5 a5 l5 c5 aa5 ll5 cc5 _; refine hd hK fun hH => st 8 fun K hK => ?_; go_simp; refine A9 (Bj (by decide)) ?_; intro y8 _ g8 a8 l8 c8 aa8 ll8 cc8 _; refine hd hK fun hH => st 11 fun K hK => ?_; go_simp; refine A9 (Bj (by decide)) ?_; intro y11 _ g11 a11 l11 c11 aa11 ll11 cc11 _; refine hd hK fun hH => st 14 fun K hK => ?_; go_simp; refine A9 (Bj (by decide)) ?_; intro y14 _ g14 a14 l14 c14 aa14 ll14 cc14 _; refine hd hK fun hH => st 17 fun K hK => ?_; go_simp; refine A9 (Bj (by decide)) ?_; intro y17 _ g17 a17 l17 c17 aa17 ll17 cc17 _; refine hd hK fun hH => ?_; refine tk 18 hH (st 20 fun K hK => ?_)
    try rw [if_pos (by rfl)]
    refine Bs 52 (.tmp 8) (.tmp 61) rfl rfl rfl (l' := [.bool g2, .slice a2 l2 c2, .slice aa2 ll2 cc2, .bool g5, .slice a5 l5 c5, .slice aa5 ll5 cc5, .bool g8, .slice a8 l8 c8, .slice aa8 ll8 cc8, .bool g11, .slice a11 l11 c11, .slice aa11 ll11 cc11, .bool g14, .slice a14 l14 c14, .slice aa14 ll14 cc14, .bool g17, .slice a17 l17 c17, .slice aa17 ll17 cc17]) rfl (by kernel_rfl) (by rfl) (MW.one ⟨⟨g2, a2, l2, c2, aa2, ll2, cc2⟩, ⟨g5, a5, l5, c5, aa5, ll5, cc5⟩, ⟨g8, a8, l8, c8, aa8, ll8, cc8⟩, ⟨g11, a11, l11, c11, aa11, ll11, cc11⟩, ⟨g14, a14, l14, c14, aa14, ll14, cc14⟩, ⟨g17, a17, l17, c17, aa17, ll17, cc17⟩⟩) (w := W6) ?_
    intro W20 _ _ b20 _ _; refine hd hK fun hH => dn ?_; clear hH; go_wp2_with fail; go_meet; exact ⟨_, ⟨⟨g2, a2, l2, c2, aa2, ll2, cc2⟩, ⟨g5, a5, l5, c5, aa5, ll5, cc5⟩, ⟨g8, a8, l8, c8, aa8, ll8, cc8⟩, ⟨g11, a11, l11, c11, aa11, ll11, cc11⟩, ⟨g14, a14, l14, c14, aa14, ll14, cc14⟩, ⟨g17, a17, l17, c17, aa17, ll17, cc17⟩⟩, rfl, b20, MkQ.mk' (by decide), ii⟩
  ·go_simp; refine hd hK fun hH => st 2 fun K hK => ?_; go_simp; refine A9 (Bj (by decide)) ?_; intro y2 _ g2 a2 l2 c2 aa2 ll2 cc2 _; refine hd hK fun hH => st 5 fun K hK => ?_; go_simp; refine A9 (Bj (by decide)) ?_; intro y5 _ g5 a5 l5 c5 aa5 ll5 cc5 _; refine hd hK fun hH => st 8 fun K hK => ?_; go_simp; refine A9 (Bj (by decide)) ?_; intro y8 _ g8 a8 l8 c8 aa8 ll8 cc8 _; refine hd hK fun hH => st 11 fun K hK => ?_; go_simp; refine A9 (Bj (by decide)) ?_; intro y11 _ g11 a11 l11 c11 aa11 ll11 cc11 _; refine hd hK fun hH => st 14 fun K hK => ?_; go_simp; refine A9 (Bj (by decide)) ?_; intro y14 _ g14 a14 l14 c14 aa14 ll14 cc14 _; refine hd hK fun hH => st 17 fun K hK => ?_; go_simp; refine A9 (Bj (by decide)) ?_; intro y17 _ g17 a17 l17 c17 aa17 ll17 cc17 _; refine hd hK fun hH => ?_; refine tk 18 hH (st 20 fun K hK => ?_)
   try rw [if_pos (by rfl)]
   refine Bs 52 (.tmp 8) (.tmp 61) rfl rfl rfl (l' := [.bool g2, .slice a2 l2 c2, .slice aa2 ll2 cc2, .bool g5, .slice a5 l5 c5, .slice aa5 ll5 cc5, .bool g8, .slice a8 l8 c8, .slice aa8 ll8 cc8, .bool g11, .slice a11 l11 c11, .slice aa11 ll11 cc11, .bool g14, .slice a14 l14 c14, .slice aa14 ll14 cc14, .bool g17, .slice a17 l17 c17, .slice aa17 ll17 cc17]) rfl (by kernel_rfl) (by rfl) (MW.one ⟨⟨g2, a2, l2, c2, aa2, ll2, cc2⟩, ⟨g5, a5, l5, c5, aa5, ll5, cc5⟩, ⟨g8, a8, l8, c8, aa8, ll8, cc8⟩, ⟨g11, a11, l11, c11, aa11, ll11, cc11⟩, ⟨g14, a14, l14, c14, aa14, ll14, cc14⟩, ⟨g17, a17, l17, c17, aa17, ll17, cc17⟩⟩) (w := W6) ?_
   intro W20 _ _ b20 _ _; refine hd hK fun hH => dn ?_; clear hH; go_wp2_with fail; go_meet; exact ⟨_, ⟨⟨g2, a2, l2, c2, aa2, ll2, cc2⟩, ⟨g5, a5, l5, c5, aa5, ll5, cc5⟩, ⟨g8, a8, l8, c8, aa8, ll8, cc8⟩, ⟨g11, a11, l11, c11, aa11, ll11, cc11⟩, ⟨g14, a14, l14, c14, aa14, ll14, cc14⟩, ⟨g17, a17, l17, c17, aa17, ll17, cc17⟩⟩, rfl, b20, MkQ.mk' (by decide), ii⟩
 case rest =>
  obtain ⟨b8, v8, rfl, i81, i82, i83⟩ := hcut; have kc := Kp1.mk i83.out; have hlen := Lib.hid p5.len
  have hU256 : U.length ≤ 256 := by have := hlen.out; omega
  go_wp2_with fail
  go_loopw [64, 9] (fun i o wr => ∃ (q : Nat) (X : List YV), i = .int .i64 (q : Int) ∧ q ≤ U.length ∧ Rn wr o 54 1 X.length (Bt X) wc.heap.size wr ∧ RsA wr X ((R.take q).map (List.map m.to)) 1 wr ∧ (X.length = 0 → o = .slice none 0 0) ∧ Kp wc wr) (fun i _ _ => U.length - (intOf i).toNat)
  case atStart => exact ⟨0, [], rfl, by omega, Rn.nil (by simp), RsA.nil, fun _ => rfl, ii⟩
  case round =>
   obtain ⟨q, X, rfl, hq, i1, i2, i0, i3⟩ := hrel; have kw := Kp1.mk i3.out
   have hX' := Lib.hid i0
   clear i0
   have hXl : X.length ≤ 256 := by rw [i2.len, List.length_map, List.length_take]; omega
   obtain ⟨av, cv, rfl⟩ := i1.slice
   by_cases hlt : q < U.length
   ·have hlt' : (q : Int) < U.length := by omega
    have lq : LtN q U.length := ⟨hlt⟩
    have ew : IntKind.i64.wrap ((q : Int) + 1) = (q : Int) + 1 := Ap (by omega) (by omega)
    have hqR : q < R.length := by rw [← hlen.out]; exact hlt
    have hmem := Hy hqR
    have pR : PsA wr (yv U q).V (rg R q) 5 := ii
    have pR10 := pR.mono (show 5 ≤ 10 by decide)
    have hVl : (yv U q).V.length ≤ 900 := by rw [pR.len]; exact (hF.ok _ hmem).len
    have hRq := hF.r _ hmem
    have hSq := hF.six _ hmem
    obtain ⟨g, rfl, hA⟩ := s5.form (by omega)
    go_wp2_with (first
     | refine A0 (t := 52) (x := .tmp 8) rfl rfl rfl (Bc Tryz.underlying52 rfl (by kernel_rfl)) ?_
     | (go_at_call 14; refine Qgb (Qat (v := v8) (V := (yv U q).V) (hp := pR10) hVl hRq hdet) ?_; intro w9 _ a9 c9 V9 s9 p9; have p91 := p9.six hSq; clear p9)
     | (at_builtin; go_loud (refine Hp (v := .slice av X.length cv) rfl (.tmp 76) (.tmp 78) 34 rfl Tryz.underlying34 Xl rfl (by decide) (by decide) (by decide) ii rfl (Qb _) (Jk ii (Pf X) hX'.out) rfl (by rfl) ?h1 ?h2 (by omega) ?_); (case h1 => exact YV.one ⟨_, _, _⟩); (case h2 => exact YV.nd ⟨_, _, _⟩); intro g8 c8 W8 k8 k8n k8s i8))
    go_roundw
    case rel => exact ⟨q + 1, X ++ [⟨a9, c9, V9⟩], by go_num, by omega, Rn.cast2 ii (by simp) (by rw [Oc]; rfl), by rw [Iq hqR, List.map_append]; exact RsA.snoc ii ii ii, fun e => by simp at e, ii⟩
    case measure => simp [intOf]; omega
   ·obtain rfl : q = U.length := by omega
    rw [List.take_of_length_le (by have := hlen.out; omega)] at i2
    have sX : Sl wr (.slice av X.length cv) X.length (Bt X) wr := i1.rw'.sl
    clear i1 hX'
    have hU1 := hF.r
    have hT1 := Ki (fill := fill) hF.len
    have hT2 := Ki (fill := fill) hF.len'
    have hD1 := Nq (fill := fill) hF.len
    have hD2 := Nq (fill := fill) hF.len'
    have hS1 := hF.sm fill
    have hS2 := hF.sh fill
    have hT3 : ((Cg fill R).img (Bb m)).size ≤ 65536 := by rw [S4]; exact hT1
    have hS3 : ∀ l ∈ ((Cg fill R).img (Bb m)).lines, ShL l := fun l h => by
     obtain ⟨k, k1, rfl⟩ := Tr.img_lines l h; exact (hS1 k k1).2
    have hD3 : (Cg fill (R.map (List.map m.to))).depth + ((Cg fill R).img (Bb m)).depth ≤ 1024 := by rw [img_depth]; omega
    have hMG := Qmv (fill := fill) hdet hF.r hF.r'
    have hok' := hF.ok'
    have hln' := hF.len'
    obtain ⟨on, hon⟩ : ∃ on, Cf (Aj R) (x, y) = on := ⟨_, rfl⟩; have HON := Lib.hid hon; obtain ⟨n1, n2⟩ := Qiy hdet hF.r hF.r' (x, y); rw [hon] at n1 n2
    have HON' : Hid (Cf (Aj (R.map (List.map m.to))) ((m.to (x, y)).1, (m.to (x, y)).2) = on) := Lib.hid n1
    have N2 := Lib.hid n2; clear hon n1 n2
    go_upto_region 17 with (first
     | (go_at_call 15; refine Lq (O9 (U := U) (R := R) (k := 5) (by decide) hU256 hF.ok hfill hF.len) ?_; intro y1 _ a11 c11 V11 s11 n11))
    go_upto_region 18 with (first
     | (go_at_call 15; refine Lq (O9 (U := X) (R := R.map (List.map m.to)) (k := 1) (by decide) hXl hok' hfill hln') ?_; intro y2 _ a12 c12 V12 s12 n12))
    go_upto_region 19 with (first
     | refine A0 (t := 52) (x := .tmp 8) rfl rfl rfl (Bc Tryz.underlying52 rfl (by kernel_rfl)) ?_
     | (go_at_call 16; refine Lq (Qfj (v := v8) (V := V11) hT1 hdet hS1) ?_; intro y3 _ a13 c13 V13 s13 n13))
    go_upto_region 22 with (first
     | (go_at_call 17; refine Aa (Qb5 (V := V12) (V' := V13) hT2 hS2 hT3 hS3 hMG hD3) ?_; intros))
    have hz3 : (z = 1 ∧ Wn.sg m.det = 1) ∨ (z = -1 ∧ Wn.sg m.det = -1) := by
     rcases Gp m.det with ⟨h1, h2⟩ | ⟨h1, h2⟩ | ⟨h1, h2⟩
     ·exact .inr ⟨by rw [← HZ.out, h2], if_neg (Rat.not_lt.2 (Rat.le_of_lt h1))⟩
     ·exact absurd h1 hdet
     ·exact .inl ⟨by rw [← HZ.out, h2], if_pos h1⟩
    cases on
    case false =>
     obtain ⟨nn, hn⟩ : ∃ nn, Ao (Aj R) (x, y) = nn := ⟨_, rfl⟩; obtain ⟨kk, hk⟩ : ∃ kk, Ao (Aj (R.map (List.map m.to))) ((m.to (x, y)).1, (m.to (x, y)).2) = kk := ⟨_, rfl⟩; have HNN := Lib.hid hn; have HKK := Lib.hid hk
     have hnb := Qb0 (Aj R) (x, y)
     have hl15 := hF.len
     have hkn := N2.out rfl
     rw [hn] at hnb hkn
     rw [show Ao (Aj (R.map (List.map m.to))) (m.to (x, y)) = kk from hk] at hkn
     have HKN := Lib.hid hkn; clear hn hk hkn
     go_upto_region 23 with (first
      | (go_at_call 19; refine F5 (J6 (by decide)) ?_; intro y4 _ gp ap lp cp bp mp dp gq aq lq cq bq mq dq jx jy; have jx1 := jx.cast rfl (show max 4 4 + 1 ≤ 10 by decide); have jy1 := jy.cast rfl (show max 4 4 + 1 ≤ 10 by decide); clear jx jy)
      | (go_at_call 18; refine Aa (v := .tuple #[.int .i64 nn, .nilIface]) (by obtain rfl := HNN.out; exact X7 (U := U) (R := R) (k := 5) (by decide) hU256 hF.ok hF.len (by decide) HON) ?_; intro y5 _))
     refine rgn [] [] fun hH => ?_; refine tk 0 hH ?_; refine tk 1 hH ?_ (hy := fun wx hSw => by have hSx := Ex1.mk hSw; exact Hi rfl rfl (Bc Tryz.underlying52 rfl (by kernel_rfl))); refine tk 2 hH (st 3 fun K hK => ?_); go_simp
     refine F5 (J6 (by decide)) ?_; intro y4 _ gp ap lp cp bp mp dp gq aq lq cq bq mq dq jx jy; have jx1 := jx.cast rfl (show max 4 4 + 1 ≤ 10 by decide); have jy1 := jy.cast rfl (show max 4 4 + 1 ≤ 10 by decide); clear jx jy
     refine hd hK fun hH => st 4 fun K hK => ?_; go_simp; refine F5 (Ua (v := v8)) ?_; intros; refine hd hK fun hH => st 5 fun K hK => ?_; go_simp; refine Aa (v := .tuple #[.int .i64 kk, .nilIface]) (by obtain rfl := HKK.out; exact X7 (U := X) (R := R.map (List.map m.to)) (k := 1) (by decide) hXl hok' hln' (by decide) HON') ?_; intro y6 _; refine hd hK fun hH => ?_; refine tk 6 hH ?_; refine tk 7 hH ?_; refine tk 8 hH ?_; refine tk 9 hH ?_; refine tk 10 hH (dn ?_); clear hH
     rcases hz3 with ⟨rfl, hsg⟩ | ⟨rfl, hsg⟩
     ·have hkn := HKN.out
      rw [hsg] at hkn
      obtain rfl : kk = nn := by omega
      clear hkn HKN hsg
      have hlt0 : decide ((1 : Int) < 0) = false := rfl
      go_upto_region 26 with (first
      | refine A0 (t := 32) (x := .tmp 4) rfl rfl rfl (Bc Tryz.underlying32 rfl (by kernel_rfl)) ?_
      | (go_at_call 11; refine A3 (I9 (v := v)) ?_; intros)
      | (go_at_call 10; refine Aa (Gc HZ) ?_; intro W6 _))
      refine rgn [] [] fun hH => st 0 fun K hK => ?_; go_simp; refine Aa Jp ?_; intros; refine hd hK fun hH => ?_; refine tk 1 hH ?_; refine tk 2 hH ?_; refine tk 3 hH ?_; refine tk 4 hH ?_; refine tk 5 hH ?_; refine tk 6 hH ?_; refine tk 7 hH ?_; refine tk 8 hH ?_; refine tk 9 hH ?_; refine tk 10 hH ?_; refine tk 11 hH ?_; refine tk 12 hH ?_; refine tk 13 hH (dn ?_); clear hH; go_wp2_with fail; go_ret; exact E.fin rfl
     ·have hkn := HKN.out
      rw [hsg] at hkn
      obtain rfl : kk = -nn := by omega
      have ewk : IntKind.i64.wrap (- -nn) = nn := by rw [Int.neg_neg]; exact Ap (by omega) (by omega)
      clear hkn HKN hsg
      have hlt0 : decide ((-1 : Int) < 0) = true := rfl
      go_upto_region 26 with (first
      | refine A0 (t := 32) (x := .tmp 4) rfl rfl rfl (Bc Tryz.underlying32 rfl (by kernel_rfl)) ?_
      | (go_at_call 11; refine A3 (I9 (v := v)) ?_; intros)
      | (go_at_call 10; refine Aa (Gc HZ) ?_; intro W6 _))
      refine rgn [] [] fun hH => st 0 fun K hK => ?_; go_simp; refine Aa Jp ?_; intros; refine hd hK fun hH => ?_; refine tk 1 hH ?_; refine tk 2 hH ?_; refine tk 3 hH ?_; refine tk 4 hH ?_; refine tk 5 hH ?_; refine tk 6 hH ?_; refine tk 7 hH ?_; refine tk 8 hH ?_; refine tk 9 hH ?_; refine tk 10 hH ?_; refine tk 11 hH ?_; refine tk 12 hH ?_; refine tk 13 hH (dn ?_); clear hH; go_wp2_with fail; go_ret; exact E.fin rfl
    case true =>
     go_upto_region 23 with (first
      | (go_at_call 19; refine F5 (J6 (by decide)) ?_; intro y4 _ gp ap lp cp bp mp dp gq aq lq cq bq mq dq jx jy; have jx1 := jx.cast rfl (show max 4 4 + 1 ≤ 10 by decide); have jy1 := jy.cast rfl (show max 4 4 + 1 ≤ 10 by decide); clear jx jy)
      | (go_at_call 18; refine Aa (Ye (U := U) (R := R) (k := 5) (by decide) hU256 hF.ok hF.len (by decide) HON) ?_; intro y5 _))
     refine rgn [] [] fun hH => ?_; refine tk 0 hH ?_; refine tk 1 hH ?_ (hy := fun wx hSw => by have hSx := Ex1.mk hSw; exact Hi rfl rfl (Bc Tryz.underlying52 rfl (by kernel_rfl))); refine tk 2 hH (st 3 fun K hK => ?_); go_simp
     refine F5 (J6 (by decide)) ?_; intro y4 _ gp ap lp cp bp mp dp gq aq lq cq bq mq dq jx jy; have jx1 := jx.cast rfl (show max 4 4 + 1 ≤ 10 by decide); have jy1 := jy.cast rfl (show max 4 4 + 1 ≤ 10 by decide); clear jx jy
     refine hd hK fun hH => st 4 fun K hK => ?_; go_simp; refine F5 (Ua (v := v8)) ?_; intros; refine hd hK fun hH => st 5 fun K hK => ?_; go_simp; refine Aa (Ye (U := X) (R := R.map (List.map m.to)) (k := 1) (by decide) hXl hok' hln' (by decide) HON') ?_; intro y6 _; refine hd hK fun hH => ?_; refine tk 6 hH ?_; refine tk 7 hH ?_; refine tk 8 hH ?_; refine tk 9 hH ?_; refine tk 10 hH (dn ?_); clear hH
     rcases hz3 with ⟨rfl, hsg⟩ | ⟨rfl, hsg⟩
     ·clear hsg
      have hlt0 : decide ((1 : Int) < 0) = false := rfl
      go_upto_region 26 with (first
      | refine A0 (t := 32) (x := .tmp 4) rfl rfl rfl (Bc Tryz.underlying32 rfl (by kernel_rfl)) ?_
      | (go_at_call 11; refine A3 (I9 (v := v)) ?_; intros)
      | (go_at_call 10; refine Aa (Gc HZ) ?_; intro W6 _))
      refine rgn [] [] fun hH => st 0 fun K hK => ?_; go_simp; refine Aa Jp ?_; intros; refine hd hK fun hH => ?_; refine tk 1 hH ?_; refine tk 2 hH ?_; refine tk 3 hH ?_; refine tk 4 hH ?_; refine tk 5 hH ?_; refine tk 6 hH ?_; refine tk 7 hH ?_; refine tk 8 hH ?_; refine tk 9 hH ?_; refine tk 10 hH ?_; refine tk 11 hH ?_; refine tk 12 hH ?_; refine tk 13 hH (dn ?_); clear hH; go_wp2_with fail; go_ret; exact E.fin rfl
     ·clear hsg
      have hlt0 : decide ((-1 : Int) < 0) = true := rfl
      go_upto_region 26 with (first
      | refine A0 (t := 32) (x := .tmp 4) rfl rfl rfl (Bc Tryz.underlying32 rfl (by kernel_rfl)) ?_
      | (go_at_call 11; refine A3 (I9 (v := v)) ?_; intros)
      | (go_at_call 10; refine Aa (Gc HZ) ?_; intro W6 _))
      refine rgn [] [] fun hH => st 0 fun K hK => ?_; go_simp; refine Aa Jp ?_; intros; refine hd hK fun hH => ?_; refine tk 1 hH ?_; refine tk 2 hH ?_; refine tk 3 hH ?_; refine tk 4 hH ?_; refine tk 5 hH ?_; refine tk 6 hH ?_; refine tk 7 hH ?_; refine tk 8 hH ?_; refine tk 9 hH ?_; refine tk 10 hH ?_; refine tk 11 hH ?_; refine tk 12 hH ?_; refine tk 13 hH (dn ?_); clear hH; go_wp2_with fail; go_ret; exact E.fin rfl
end Go.Proofs.YtpnpnlmlamfpmaaGreatDoor
