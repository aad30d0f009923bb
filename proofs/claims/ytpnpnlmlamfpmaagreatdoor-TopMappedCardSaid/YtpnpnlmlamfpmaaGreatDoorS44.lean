import Derived.Test.YtpnpnlmlamfpmaaGreatDoorS42
import Derived.Test.YtpnpnlmlamfpmaaGreatDoorS43
namespace Go.Proofs.YtpnpnlmlamfpmaaGreatDoor
set_option linter.unusedSimpArgs false
set_option linter.unusedVariables false
set_option maxRecDepth 100000
section
set_option maxHeartbeats 4000000
set_option synthInstance.maxHeartbeats 1000000
set_option synthInstance.maxSize 100000
open Go.RowKit Cel
theorem Qat {w w0 : World} {a : Option Addr} {n c : Nat} {V : List AV} {L : List (Rat × Rat)} {v : MW} {m : Aff} [h : Mk w v m] [hs : Sl w (.slice a n c) V.length (Af V) w0] [hp : PsA w V L 10] (hV : V.length ≤ 900) (hR : RingOK L) (hd : m.det ≠ 0) :
  Calls Tryz.prog 14 #[.agg #[.bool v.a.g, .slice v.a.a v.a.l v.a.c, .slice v.a.b v.a.m v.a.d, .bool v.b.g, .slice v.b.a v.b.l v.b.c, .slice v.b.b v.b.m v.b.d, .bool v.c.g, .slice v.c.a v.c.l v.c.c, .slice v.c.b v.c.m v.c.d, .bool v.d.g, .slice v.d.a v.d.l v.d.c, .slice v.d.b v.d.m v.d.d, .bool v.e.g, .slice v.e.a v.e.l v.e.c, .slice v.e.b v.e.m v.e.d, .bool v.f.g, .slice v.f.a v.f.l v.f.c, .slice v.f.b v.f.m v.f.d], .slice a n c] w (Q8 w (L.map m.to) 100) := by
 obtain rfl := hs.len; have hlen := Lib.hid hp.len
 have hpos : 0 < L.length := hR.pos
 go_enter Tryz.func14, Tryz.ntmps14
 go_wp2_with (first
  | (go_at_call 35; refine Xh (Xg (V := V) (k := 10) (by decide) (by omega) hR) ?_; intro w5 _ a5 c5 V5 s5 p5)
  | (go_at_call 36; refine So (Z7 (v := v) hd) ?_; intro w6 _ u k6)
  | refine A0 (t := 52) (x := .tmp 2) rfl rfl rfl (Bc Tryz.underlying52 rfl (by kernel_rfl)) ?_
  | (with_reducible refine Hk (w := w) rfl 100 (.tmp 8) (.tmp 23) rfl rfl rfl (l' := [.int .i64 u.p.x.n, .int .i64 u.p.x.d, .pointer u.p.x.p, .int .i64 u.p.y.n, .int .i64 u.p.y.d, .pointer u.p.y.p, .int .i64 u.q.x.n, .int .i64 u.q.x.d, .pointer u.q.x.p, .int .i64 u.q.y.n, .int .i64 u.q.y.d, .pointer u.q.y.p, .int .i64 u.r.x.n, .int .i64 u.r.x.d, .pointer u.r.x.p, .int .i64 u.r.y.n, .int .i64 u.r.y.d, .pointer u.r.y.p]) rfl (by kernel_rfl) (by simp only [List.length_cons, List.length_nil]) (AW.one u) ?_; intro W8 _ _ b8 _ _))
 have hl5 := Lib.hid p5.len
 go_loopw [30, 9] (fun i o wr => ∃ (q : Nat) (U : List FV), i = .int .i64 (q : Int) ∧ q ≤ V5.length ∧ Rn wr o 98 6 U.length (Ax U) W8.heap.size wr ∧ Hid (U.length = q) ∧ PsF wr U ((L.take q).map m.to) 100 ∧ Kp W8 wr) (fun i _ _ => V5.length - (intOf i).toNat)
 case atStart => exact ⟨0, [], rfl, by omega, Rn.nil (by simp), Lib.hid rfl, PsF.nil, ii⟩
 case round =>
  obtain ⟨q, U, rfl, hq, i1, hU, i2, i5⟩ := hrel; have kw := Kp1.mk i5.out
  have hV5 : V5.length ≤ 900 := by rw [hl5.out, ← hlen.out]; exact hV
  by_cases hlt : q < V5.length
  ·have hlt' : (q : Int) < V5.length := by omega
   have lq : LtN q V5.length := ⟨hlt⟩
   have ew : IntKind.i64.wrap ((q : Int) + 1) = (q : Int) + 1 := Ap (by omega) (by omega)
   obtain ⟨g, rfl, hA⟩ := s5.form (by omega)
   go_wp2_with (first
    | refine A0 (t := 100) (x := .tmp 8) rfl rfl rfl (Bc Tryz.underlying100 rfl (by kernel_rfl)) ?_
    | (go_at_call 37; refine Au (Zr (v := u) (p := ⟨⟨(fv V5 q).nx, (fv V5 q).dx, (fv V5 q).px⟩, ⟨(fv V5 q).ny, (fv V5 q).dy, (fv V5 q).py⟩⟩)) ?_; intro w9 _ nx dx px ny dy py i8 i9)
    | (at_builtin; go_loud (refine Hd (v := u9) rfl (.tmp 34) (.tmp 38) 91 rfl Tryz.underlying91 Rz rfl (by decide) (by decide) (by decide) ii rfl (Sg _) rfl (by rfl) ?h1 ?h2 (by first | omega | (have := hU.out; omega)) ?_); (case h1 => exact FV.one ⟨_, _, _, _, _, _⟩); (case h2 => exact FV.nd ⟨_, _, _, _, _, _⟩); intro g2 c2 w2 i9 i10 i11))
   go_roundw
   case rel => exact ⟨q + 1, U ++ [⟨nx, dx, px, ny, dy, py⟩], by go_num, by omega, Rn.cast2 (ii) (by simp) (by rw [Pb]; rfl), Lib.hid (by rw [List.length_append, hU.out]; rfl), by rw [Li (by have := hl5.out; omega), List.map_append, List.map_cons, List.map_nil]; exact PsF.add (by first | omega | simp) (by first | omega | simp), ii⟩
   case measure => simp [intOf]; omega
  ·obtain rfl : q = V5.length := by omega
   rw [List.take_of_length_le (by have := hl5.out; omega)] at i2
   have hU9 : U.length ≤ 900 := by rw [hU.out]; exact hV5
   obtain ⟨a3, c3, rfl⟩ := i1.slice
   have s3 : Sl wr (.slice a3 U.length c3) U.length (Ax U) wr := i1.rw'.sl
   go_wp2_with (first
    | (go_at_call 38; refine Nz (Qcv (V := U) (k := 100) (by decide) (by omega)) ?_; intros))
   go_ret2; exact Q8.fin rfl (Nat.le_refl _)
end
section
set_option maxHeartbeats 4000000
set_option synthInstance.maxHeartbeats 1000000
set_option synthInstance.maxSize 100000
open Go.RowKit Cel
variable {m : Aff} {t : Tr}
theorem Qid {v : AW} (hdt : m.det ≠ 0) : ∀ {w : World} {b : Nat} [h : Ak w v m] [ht : Tk w b t], (∀ l ∈ t.lines, l.ok ∧ ShL (Bb m l)) → Calls Tryz.prog 47 #[.agg #[.int .i64 v.p.x.n, .int .i64 v.p.x.d, .pointer v.p.x.p, .int .i64 v.p.y.n, .int .i64 v.p.y.d, .pointer v.p.y.p, .int .i64 v.q.x.n, .int .i64 v.q.x.d, .pointer v.q.x.p, .int .i64 v.q.y.n, .int .i64 v.q.y.d, .pointer v.q.y.p, .int .i64 v.r.x.n, .int .i64 v.r.x.d, .pointer v.r.x.p, .int .i64 v.r.y.n, .int .i64 v.r.y.d, .pointer v.r.y.p], .pointer (some ⟨b, 0, none⟩)] w (Eo w (t.img (Bb m))) := by
 induction t with
 | leaf i =>
  intro w b h ht hl; go_enter Tryz.func47, Tryz.ntmps47
  go_wp2_with (first
   | (go_at_call 89; refine Aa (Dq) ?_; intros))
  go_ret; exact Eo.fin ii
 | node l x y ihx ihy =>
  intro w b h ht hl; obtain ⟨vl, b1, b2, hb, k1, k2, k3⟩ := ht.node; obtain ⟨hl1, hl2⟩ := hl l (by simp [Tr.lines])
  have hlx : ∀ l ∈ x.lines, l.ok ∧ ShL (Bb m l) := fun l h => hl l (by simp [Tr.lines, h])
  have hly : ∀ l ∈ y.lines, l.ok ∧ ShL (Bb m l) := fun l h => hl l (by simp [Tr.lines, h])
  go_enter Tryz.func47, Tryz.ntmps47
  go_wp2_with (first
   | (go_at_call 89; refine Aa (Da) ?_; intros))
  refine rgn [] [] fun hH => ?_; refine tk 0 hH ?_ (hy := fun wx hSw => by have hSx := Ex1.mk hSw; exact Hi rfl rfl (Bc Tryz.underlying100 rfl (by kernel_rfl))); refine tk 1 hH ?_; refine tk 2 hH ?_; refine tk 3 hH ?_; refine tk 4 hH ?_; refine tk 6 hH ?_ (hy := fun wx hSw => by have hSx := Ex1.mk hSw; exact Hi rfl rfl (Bc Tryz.underlying100 rfl (by kernel_rfl))); refine tk 7 hH ?_; refine tk 8 hH ?_; refine tk 9 hH ?_; refine tk 10 hH ?_; refine tk 12 hH ?_ (hy := fun wx hSw => by have hSx := Ex1.mk hSw; exact Hi rfl rfl (Bc Tryz.underlying100 rfl (by kernel_rfl))); refine tk 13 hH ?_; refine tk 14 hH ?_; refine tk 15 hH ?_; refine tk 16 hH (st 5 fun K hK => ?_); go_simp; refine Fg (Qja (v := v) (u := vl) hdt hl1 hl2) ?_; intros; refine hd hK fun hH => st 11 fun K hK => ?_; go_simp
  (refine A7 (ihx hlx) ?_); intros
  refine hd hK fun hH => st 17 fun K hK => ?_; go_simp
  (refine A7 (ihy hly) ?_); intros
  refine hd hK fun hH => st 18 fun K hK => ?_; go_simp; refine A7 (G8) ?_; intros; refine hd hK fun hH => ?_; refine tk 19 hH (dn ?_); clear hH
  skip
  go_wp2_with fail; go_ret; exact Eo.fin ii
theorem S4 {f : LQ → LQ} : (t.img f).size = t.size := by induction t with
 | leaf => rfl
 | node l x y ihx ihy => simp only [Tr.img, Tr.size, ihx, ihy]
theorem Qfj {w w0 : World} {v : MW} [h : Mk w v m] {a : Option Addr} {n c : Nat} {V : List NW} [hs : Sl w (.slice a n c) V.length (rowN V) w0] [hn : Cn w V (A4 t 0)] (hV : t.size ≤ 65536) (hdt : m.det ≠ 0) (hl : ∀ l ∈ t.lines, ShL l ∧ ShL (Bb m l)) :
  Calls Tryz.prog 16 #[.agg #[.bool v.a.g, .slice v.a.a v.a.l v.a.c, .slice v.a.b v.a.m v.a.d, .bool v.b.g, .slice v.b.a v.b.l v.b.c, .slice v.b.b v.b.m v.b.d, .bool v.c.g, .slice v.c.a v.c.l v.c.c, .slice v.c.b v.c.m v.c.d, .bool v.d.g, .slice v.d.a v.d.l v.d.c, .slice v.d.b v.d.m v.d.d, .bool v.e.g, .slice v.e.a v.e.l v.e.c, .slice v.e.b v.e.m v.e.d, .bool v.f.g, .slice v.f.a v.f.l v.f.c, .slice v.f.b v.f.m v.f.d], .agg #[.int .i64 (code t 0), .slice a n c]] w (Ot w (t.img (Bb m))) := by
 obtain rfl := hs.len
 have hls : ∀ l ∈ t.lines, ShL l := fun l h => (hl l h).1
 have hlt : ∀ l ∈ t.lines, l.ok ∧ ShL (Bb m l) := fun l h => ⟨S6.ok l (hl l h).1.prim, (hl l h).2⟩
 have hsz : (t.img (Bb m)).size ≤ 65536 := by rw [S4]; exact hV
 go_enter Tryz.func16, Tryz.ntmps16
 go_wp2_with (first
  | refine A0 (t := 52) (x := .tmp 2) rfl rfl rfl (Bc Tryz.underlying52 rfl (by kernel_rfl)) ?_
  | refine A0 (t := 100) (x := .tmp 8) rfl rfl rfl (Bc Tryz.underlying100 rfl (by kernel_rfl)) ?_
  | (go_at_call 46; refine Na (Lv (V := V) hV hls) ?_; intro w5 _ b5 k5)
  | (go_at_call 36; refine So (Z7 (v := v) hdt) ?_; intro w6 _ u6 k6)
  | (with_reducible refine Hk (w := w) rfl 100 (.tmp 8) (.tmp 22) rfl rfl rfl (l' := [.int .i64 u6.p.x.n, .int .i64 u6.p.x.d, .pointer u6.p.x.p, .int .i64 u6.p.y.n, .int .i64 u6.p.y.d, .pointer u6.p.y.p, .int .i64 u6.q.x.n, .int .i64 u6.q.x.d, .pointer u6.q.x.p, .int .i64 u6.q.y.n, .int .i64 u6.q.y.d, .pointer u6.q.y.p, .int .i64 u6.r.x.n, .int .i64 u6.r.x.d, .pointer u6.r.x.p, .int .i64 u6.r.y.n, .int .i64 u6.r.y.d, .pointer u6.r.y.p]) rfl (by kernel_rfl) (by simp only [List.length_cons, List.length_nil]) (AW.one u6) ?_; intro W8 _ _ b8 _ _)
  | (go_at_call 47; refine A7 (Qid (v := u6) hdt hlt) ?_; intro w8 _ b8 k8)
  | (go_at_call 45; refine Qh (Q5 hsz) ?_; intro w9 _ a9' c9 V9 s9 k9))
 refine B6 rfl Tryz.underlying61 rfl (by kernel_rfl) rfl rfl rfl ?_
 exact ⟨a9', c9, V9, rfl, (Sl.setBox (Sl.setBox s9 ii) ii).here, ii, (ii : Kp w _).out⟩
end
section
set_option maxHeartbeats 4000000
set_option synthInstance.maxHeartbeats 1000000
set_option synthInstance.maxSize 100000
open Go.RowKit Cel
instance boxT_pr : BoxT 121 := by constructor <;> decide
variable {b b0 c c' n n' q : Nat} {i : Bool} {w w0 w1 : World}
theorem Qg3 [ht : Tk w b (.leaf i)] : Calls Tryz.prog 243 #[.pointer (some ⟨b, 0, none⟩), .pointer (some ⟨q, 0, none⟩)] w (fun e w' => e = .returned (.tuple #[]) ∧ Below w.heap.size w w') := by
 go_enter Tryz.func243, Tryz.ntmps243
 go_wp2_with (first
  | (go_at_call 89; (with_reducible refine Aa (Dq) ?_); intros))
 go_end0
 exact E.fin rfl
theorem Qg9 [ht : Tk w b (.leaf i)] : Calls Tryz.prog 242 #[.pointer (some ⟨b, 0, none⟩), .func (.func 243) #[] #[.pointer (some ⟨q, 0, none⟩)]] w (fun e w' => e = .returned (.tuple #[]) ∧ Below w.heap.size w w') := by
 go_enter Tryz.func242, Tryz.ntmps242; go_wp2_with fail
 refine wp_loop_rounds 2 ?_
 rw [rounds_succ]
 go_wp2_with (first
  | (go_at_call 89; (with_reducible refine Aa (Dq) ?_); intros)
  | (go_at_call 243; (with_reducible refine Aa (Qg3) ?_); intros))
 try rw [rounds_succ]
 try go_wp2_with fail
 go_end0
 exact E.fin rfl
theorem Qmx [ht : Tk w b (.leaf i)] : Calls Tryz.prog 222 #[.pointer (some ⟨b, 0, none⟩)] w (fun e w' => e = .returned (.int .i64 0) ∧ Below w.heap.size w w') := by
 have hmf : ∀ (fn : Fn) (first cap : Array Value) (w : World), (Instr.makeFunc fn first cap).run Tryz.prog w = .ok (.func fn first cap) w := fun _ _ _ _ => rfl
 go_enter Tryz.func222, Tryz.ntmps222
 go_wp2_with (first
  | (go_at_call 242; (with_reducible refine Aa (Qg9 (q := w.heap.size)) ?_); intros))
 go_ret; exact E.fin rfl
variable {t u : Tr}
theorem Qc9 {T : Tr} [ht : Tk w b t] [hu : Tk w b0 u] (hT : Hid (t.merge u [] = T)) (hV : t.depth + u.depth ≤ 700000) : Calls Tryz.prog 221 #[.int .i64 4, .pointer (some ⟨b, 0, none⟩), .pointer (some ⟨b0, 0, none⟩), .slice none 0 0] w (Eo w T) := by
 rw [← hT.out]
 have := Cw.nil (W := w)
 have := Cl (W := w)
 exact Qes (a := none) (n := 0) (c := 0) (V := []) (C := []) (by simp; omega)
theorem Qb7 [ht : Tk w b t] [hu : Tk w b0 u] (hT : t.merge u [] = .leaf i) (hV : t.depth + u.depth ≤ 1024) : Calls Tryz.prog 189 #[.int .i64 4, .pointer (some ⟨b, 0, none⟩), .pointer (some ⟨b0, 0, none⟩)] w (TkE w (.leaf i)) := by
 have hT' := Lib.hid hT
 have ew : IntKind.i64.wrap ((t.depth : Int) + u.depth) = (t.depth : Int) + u.depth := Ap (by omega) (by omega)
 have hc : ¬ ((1024 : Int) < (t.depth : Int) + u.depth) := (by omega); clear hT; go_enter Tryz.func189, Tryz.ntmps189
 go_wp2_with (first
  | (go_at_call 150; (with_reducible refine Aa (Ut (by omega)) ?_); intros)
  | (go_at_call 221; go_loud (with_reducible refine A7 (Qc9 (t := t) (u := u) hT' (by omega)) ?_); intros)
  | (go_at_call 222; (with_reducible refine Aa (Qmx) ?_); intros))
 go_ret2; exact ⟨_, rfl, ii, (ii : Kp w _).out⟩
theorem Qdg [ht : Tk w b t] [hu : Tk w b0 u] (hT : t.merge u [] = .leaf i) (hV : t.depth + u.depth ≤ 1024) : Calls Tryz.prog 140 #[.int .i64 4, .pointer (some ⟨b, 0, none⟩), .pointer (some ⟨b0, 0, none⟩)] w (TkE w (.leaf i)) := by
 go_enter Tryz.func140, Tryz.ntmps140
 go_wp2_with (first
  | (go_at_call 189; go_loud (with_reducible refine Mo (Qb7 (t := t) (u := u) hT hV) ?_); intros))
 go_ret2; exact ⟨_, rfl, ii, (ii : Kp w _).out⟩
theorem Qjt [ht : Tk w b t] [hu : Tk w b0 u] (hT : t.merge u [] = .leaf false) (hV : t.depth + u.depth ≤ 1024) : Calls Tryz.prog 94 #[.agg #[.pointer (some ⟨b, 0, none⟩), .pointer (some ⟨b0, 0, none⟩)], .int .i64 4] w (fun e w' => e = .returned (.tuple #[.bool true, .nilIface]) ∧ Below w.heap.size w w') := by
 go_enter Tryz.func94, Tryz.ntmps94
 go_wp2_with (first
  | (go_at_call 140; go_loud (with_reducible refine Mo (Qdg (t := t) (u := u) hT hV) ?_); intro w6 _ b6 k6; obtain ⟨v6, hb6⟩ := k6.leaf)
  | (go_at_call 89; (with_reducible refine Aa (Dq) ?_); intros))
 go_ret2; exact E.fin rfl
theorem Qgt [ht : Tk w b t] [hu : Tk w b0 u] (hT : t.merge u [] = .leaf false) (hV : t.depth + u.depth ≤ 1024) : Calls Tryz.prog 49 #[.agg #[.pointer (some ⟨b, 0, none⟩), .pointer (some ⟨b0, 0, none⟩)]] w (fun e w' => e = .returned (.tuple #[.bool true, .nilIface]) ∧ Below w.heap.size w w') := by
 go_enter Tryz.func49, Tryz.ntmps49
 go_wp2_with (first
  | (go_at_call 94; go_loud (with_reducible refine Aa (Qjt (t := t) (u := u) hT hV) ?_); intros))
 go_ret2; exact E.fin rfl
def V3 (w : World) (t u : Tr) (e : Ending) (w' : World) : Prop := ∃ b b0, e = .returned (.tuple #[.agg #[.pointer (some ⟨b, 0, none⟩), .pointer (some ⟨b0, 0, none⟩)], .nilIface]) ∧ Tk w' b t ∧ Tk w' b0 u ∧ Below w.heap.size w w'
theorem Qc8 {P : Program} {f : FuncId} {args : Array Value} {K : Ending → World → Prop} (h : Calls P f args w (V3 w t u))
  (hK : ∀ w' [Kp1 w w'] (b b0 : Nat) [Tk w' b t] [Tk w' b0 u], K (.returned (.tuple #[.agg #[.pointer (some ⟨b, 0, none⟩), .pointer (some ⟨b0, 0, none⟩)], .nilIface])) w') : Calls P f args w K := by
 refine h.mono ?_
 rintro e w' ⟨b, b0, rfl, h1, h2, h3⟩
 exact @hK w' ⟨h3⟩ b b0 h1 h2
variable {V V' : List NW} {a a' : Option Addr}
theorem Qht [hs : Sl w (.slice a n c) V.length (rowN V) w0] [hn : Cn w V (A4 t 0)] [hs' : Sl w (.slice a' n' c') V'.length (rowN V') w1] [hn' : Cn w V' (A4 u 0)] (hV : t.size ≤ 65536) (hl : ∀ l ∈ t.lines, ShL l) (hV' : u.size ≤ 65536) (hl' : ∀ l ∈ u.lines, ShL l) :
  Calls Tryz.prog 48 #[.agg #[.int .i64 (code t 0), .slice a n c], .agg #[.int .i64 (code u 0), .slice a' n' c']] w (V3 w t u) := by
 go_enter Tryz.func48, Tryz.ntmps48
 go_wp2_with (first
  | (go_at_call 46; (with_reducible refine Na (Lv (V := V) (t := t) hV hl) ?_); intros)
  | (go_at_call 46; (with_reducible refine Na (Lv (V := V') (t := u) hV' hl') ?_); intros))
 refine B6 rfl Tryz.underlying121 rfl (by kernel_rfl) rfl rfl rfl ?_
 exact ⟨_, _, rfl, ii, ii, (ii : Kp w _).out⟩
theorem Qb5 [hs : Sl w (.slice a n c) V.length (rowN V) w0] [hn : Cn w V (A4 t 0)] [hs' : Sl w (.slice a' n' c') V'.length (rowN V') w1] [hn' : Cn w V' (A4 u 0)] (hV : t.size ≤ 65536) (hl : ∀ l ∈ t.lines, ShL l) (hV' : u.size ≤ 65536) (hl' : ∀ l ∈ u.lines, ShL l) (hT : t.merge u [] = .leaf false) (hdp : t.depth + u.depth ≤ 1024) :
  Calls Tryz.prog 17 #[.agg #[.int .i64 (code t 0), .slice a n c], .agg #[.int .i64 (code u 0), .slice a' n' c']] w (fun e w' => e = .returned (.tuple #[.bool true, .nilIface]) ∧ Below w.heap.size w w') := by
 go_enter Tryz.func17, Tryz.ntmps17
 go_wp2_with (first
  | (go_at_call 48; go_loud (with_reducible refine Qc8 (Qht (V := V) (V' := V') (t := t) (u := u) hV hl hV' hl') ?_); intros)
  | (go_at_call 49; go_loud (with_reducible refine Aa (Qgt (t := t) (u := u) hT hdp) ?_); intros))
 go_ret2; exact E.fin rfl
end
section
set_option maxHeartbeats 4000000
set_option synthInstance.maxHeartbeats 1000000
set_option synthInstance.maxSize 100000
open Go.RowKit Cel
variable {W W2 w w0 : World} {k q t : Nat}
instance (priority := low) Asl.tp [k : Tp1 W W2 q] : Asl W W2 := ⟨⟨some q, k.gb, fun j e => by
 cases e
 obtain ⟨a, n, c, at_, zs, hh, _⟩ := k.tp
 exact ⟨a, n, c, by simp [World.cell?, hh]⟩⟩⟩
variable {R : List (List (Rat × Rat))} {U : List YV}
instance (priority := low) RsQ.tp [kt : Tp1 W W2 q] [h : RsQ W U R k w0] : RsQ W2 U R k w0 := ⟨h.len, fun i hi => by have := h.s i hi; exact Sl.asl (W := W), fun i hi => by have := h.p i hi; exact ii⟩
instance (priority := low) RsA.tp [kt : Tp1 W W2 q] [h : RsA W U R k w0] : RsA W2 U R k w0 := ⟨h.len, fun i hi => by have := h.s i hi; exact Sl.asl (W := W), fun i hi => by have := h.p i hi; exact ii⟩
theorem Qk8 : (Tryz.prog.info? 77).map (fun i => (i.zero, i.size, i.bytes)) = some (some (.slice none 0 0), 1, 24) := by kernel_rfl
theorem Xl : (Tryz.prog.info? 54).map (fun i => (i.zero, i.size, i.bytes)) = some (some (.slice none 0 0), 1, 24) := by kernel_rfl
instance boxT_rq : BoxT 77 := by constructor <;> decide
instance boxT_ra : BoxT 54 := by constructor <;> decide
def SmR (R : List (List (Rat × Rat))) : Prop := ∀ L ∈ R, RingOK L ∧ Cr L ∧ L.length ≤ 6
def Y0 (w : World) (t : Nat) (e : Ending) (w' : World) : Prop := ∃ (a : Option Addr) (c : Nat) (U : List YV) (R : List (List (Rat × Rat))), e = .returned (.slice a U.length c) ∧ Sl w' (.slice a U.length c) U.length (Bt U) w' ∧ RsQ w' U R 4 w' ∧ (SmR R ∧ U.length ≤ 2) ∧ Ct w' t ∧ Gb w w' t
variable {K : Ending → World → Prop} {P : Program} {args : Array Value} {f : FuncId}
theorem Qln [ht : Ct w t] (h : Calls P f args w (Y0 w t))
  (hK : ∀ w' [Tp1 w w' t] [Ct w' t] (a : Option Addr) (c : Nat) (U : List YV) (R : List (List (Rat × Rat))) [Sl w' (.slice a U.length c) U.length (Bt U) w'] [RsQ w' U R 4 w'], Hid (SmR R ∧ U.length ≤ 2) → K (.returned (.slice a U.length c)) w') : Calls P f args w K := by
 refine h.mono ?_
 rintro e w' ⟨a, c, U, R, rfl, h1, h2, h3, h4, h5⟩
 exact @hK w' ⟨h5.out, ht.out⟩ h4 a c U R h1 h2 h3
theorem Qby [ht : Ct w t] : Calls Tryz.prog 7 #[.pointer (some ⟨t, 0, none⟩), .int .i64 2] w (Y0 w t) := by
 have htl : LtN t w.heap.size := ⟨ht.out.lt⟩; go_enter Tryz.func7, Tryz.ntmps7
 go_wp2_with (first
  | (go_at_call 8; refine D6 (D5 (by omega)) ?_; intro w5 _ _ v5 h50 h51))
 obtain ⟨X, rfl⟩ : ∃ X : Nat, v5 = (X : Int) := ⟨v5.toNat, by omega⟩
 have hX := Lib.hid (show X ≤ 2 by omega)
 go_loopw [6, 5] (fun i o wr => ∃ (m : Nat) (U : List YV) (R : List (List (Rat × Rat))), i = .int .i64 (m : Int) ∧ Rn wr o 77 1 U.length (Bt U) w.heap.size wr ∧ RsQ wr U R 4 wr ∧ (U.length = 0 → o = .slice none 0 0) ∧ Hid (SmR R ∧ U.length + m ≤ 2) ∧ Ct wr t ∧ Gb w wr t) (fun i _ _ => (intOf i).toNat)
 case atStart => exact ⟨X, [], [], rfl, Rn.cast2 (Rn.nil (Gb.out (w := w) (g := t)).size) rfl rfl, RsQ.nil, fun _ => rfl, Lib.hid ⟨fun L h => by simp at h, by simpa using hX.out⟩, ii, ii⟩
 case round =>
  obtain ⟨m1, U, R, rfl, i1, i2, i0, hI, i3, i4⟩ := hrel
  have kt : Tp1 w wr t := ⟨i4.out, ht.out⟩
  have hU := Lib.hid i0; clear i0; obtain ⟨a3, c3, rfl⟩ := i1.slice
  cases m1 with
  | succ m =>
   have hm : 0 < ((m + 1 : Nat) : Int) := (by omega); have hm2 : (0 : Int) < (m : Int) + 1 := (by omega)
   have em : IntKind.i64.wrap ((m : Int) + 1 - 1) = (m : Int) := by rw [Ap (by have := hI.out; omega) (by have := hI.out; omega)]; omega
   have em2 : IntKind.i64.wrap (m : Int) = (m : Int) := Ap (by have := hI.out; omega) (by have := hI.out; omega)
   go_wp2_with (first
    | (go_at_call 24; refine Qly Qa6 ?_; intro w6 _ _ a6 c6 V6 L6 s6 p6 _ h6)
    | (at_builtin; go_loud (refine Hp (v := .slice a3 U.length c3) rfl (.tmp 15) (.tmp 18) 36 rfl Tryz.underlying36 Qk8 rfl (by decide) (by decide) (by decide) ii rfl (Qb _) (Jk ii (Pf U) hU.out) rfl (by rfl) ?h1 ?h2 (by have := hI.out; omega) ?_); (case h1 => exact YV.one ⟨_, _, _⟩); (case h2 => exact YV.nd ⟨_, _, _⟩); intro g8 c8 W8 k8 k8n k8s i8))
   go_roundw
   case rel => exact ⟨m, U ++ [⟨a6, c6, V6⟩], R ++ [L6], by go_num, Rn.cast2 ii (by simp) (by rw [Oc]; rfl), RsQ.snoc ii ii ii, fun e => by simp at e, Lib.hid ⟨fun L h => by
    rcases List.mem_append.1 h with h | h
    ·exact hI.out.1 L h
    ·have := List.mem_singleton.1 h; subst this
     exact ⟨h6.out.1, h6.out.2.1, by rw [← p6.len]; exact h6.out.2.2⟩, by rw [List.length_append]; have := hI.out; simp; omega⟩, ii, ii⟩
   case measure => simp [intOf]
  | zero =>
   go_wp2_with fail; go_ret
   exact ⟨a3, c3, U, R, rfl, i1.rw'.sl.here, i2.here, ⟨hI.out.1, by have := hI.out; omega⟩, ii, ii⟩
def Uo (w : World) (R : List (List (Rat × Rat))) (k : Nat) (e : Ending) (w' : World) : Prop := ∃ (a : Option Addr) (c : Nat) (U : List YV), e = .returned (.slice a U.length c) ∧ Sl w' (.slice a U.length c) U.length (Bt U) w' ∧ RsA w' U R k w' ∧ Lo (.slice a U.length c) w.heap.size ∧ Below w.heap.size w w'
theorem Qbv (h : Calls P f args w (Uo w R k))
  (hK : ∀ w' [Kp1 w w'] (a : Option Addr) (c : Nat) (U : List YV) [Sl w' (.slice a U.length c) U.length (Bt U) w'] [RsA w' U R k w'] [Lo (.slice a U.length c) w.heap.size], K (.returned (.slice a U.length c)) w') : Calls P f args w K := by
 refine h.mono ?_
 rintro e w' ⟨a, c, U, rfl, h1, h2, h3, h4⟩
 exact @hK w' ⟨h4⟩ a c U h1 h2 h3
theorem Qk9 {i : Nat} (h : RsQ W U R k w0) (hi : i < U.length) : (yv U i).V.length = (rg R i).length := (h.p i hi).len
theorem Qce {w1 : World} {a : Option Addr} {n c : Nat} [hs : Sl w (.slice a n c) U.length (Bt U) w0] [hp : RsQ w U R k w1] (b : k ≤ 1000) (hU : U.length ≤ 256) (hR : ∀ L ∈ R, L.length ≤ 900) :
  Calls Tryz.prog 6 #[.slice a n c] w (Uo w R (k + 1)) := by
 obtain rfl := hs.len; have hlen := Lib.hid hp.len; go_enter Tryz.func6, Tryz.ntmps6; go_wp2_with fail
 go_loopw [8, 3] (fun i o wr => ∃ (q : Nat) (X : List YV), i = .int .i64 (q : Int) ∧ q ≤ U.length ∧ Rn wr o 54 1 X.length (Bt X) w.heap.size wr ∧ RsA wr X (R.take q) (k + 1) wr ∧ (X.length = 0 → o = .slice none 0 0) ∧ Kp w wr) (fun i _ _ => U.length - (intOf i).toNat)
 case atStart => exact ⟨0, [], rfl, by omega, Rn.nil (by simp), RsA.nil, fun _ => rfl, ii⟩
 case round =>
  obtain ⟨q, X, rfl, hq, i1, i2, i0, i3⟩ := hrel; have kw := Kp1.mk i3.out
  have hU' := Lib.hid i0
  clear i0
  have hXl : X.length ≤ 256 := by rw [i2.len]; have := hlen.out; rw [List.length_take]; omega
  obtain ⟨av, cv, rfl⟩ := i1.slice
  by_cases hlt : q < U.length
  ·have hlt' : (q : Int) < U.length := by omega
   have lq : LtN q U.length := ⟨hlt⟩
   have ew : IntKind.i64.wrap ((q : Int) + 1) = (q : Int) + 1 := Ap (by omega) (by omega)
   have hqR : q < R.length := by rw [← hlen.out]; exact hlt
   have hVq : (yv U q).V.length ≤ 900000 := by rw [Qk9 hp hlt]; have := hR _ (Hy hqR); omega
   obtain ⟨g, rfl, hA⟩ := hs.form (by omega)
   go_wp2_with (first
    | (go_at_call 23; refine Nz (Su (V := (yv U q).V) (k := k) (by omega) hVq) ?_; intro w6 _ a6 c6 V6 s6 p6)
    | (at_builtin; go_loud (refine Hp (v := .slice av X.length cv) rfl (.tmp 12) (.tmp 15) 34 rfl Tryz.underlying34 Xl rfl (by decide) (by decide) (by decide) ii rfl (Qb _) (Jk ii (Pf X) hU'.out) rfl (by rfl) ?h1 ?h2 (by omega) ?_); (case h1 => exact YV.one ⟨_, _, _⟩); (case h2 => exact YV.nd ⟨_, _, _⟩); intro g8 c8 W8 k8 k8n k8s i8))
   go_roundw
   case rel => exact ⟨q + 1, X ++ [⟨a6, c6, V6⟩], by go_num, by omega, Rn.cast2 ii (by simp) (by rw [Oc]; rfl), by rw [Iq hqR]; exact RsA.snoc ii ii ii, fun e => by simp at e, ii⟩
   case measure => simp [intOf]; omega
  ·obtain rfl : q = U.length := by omega
   rw [List.take_of_length_le (by have := hlen.out; omega)] at i2; go_wp2_with fail; go_ret; exact ⟨av, cv, X, rfl, i1.rw'.sl.here, i2.here, i1.lo _ _, (ii : Kp w _).out⟩
theorem I9 {v : MW} {m : Aff} [h : MkQ w v m] : Calls Tryz.prog 11 #[.agg #[.bool v.a.g, .slice v.a.a v.a.l v.a.c, .slice v.a.b v.a.m v.a.d, .bool v.b.g, .slice v.b.a v.b.l v.b.c, .slice v.b.b v.b.m v.b.d, .bool v.c.g, .slice v.c.a v.c.l v.c.c, .slice v.c.b v.c.m v.c.d, .bool v.d.g, .slice v.d.a v.d.l v.d.c, .slice v.d.b v.d.m v.d.d, .bool v.e.g, .slice v.e.a v.e.l v.e.c, .slice v.e.b v.e.m v.e.d, .bool v.f.g, .slice v.f.a v.f.l v.f.c, .slice v.f.b v.f.m v.f.d]] w (Ei w m.det 28) := by
 have := h.a; have := h.b; have := h.d; have := h.e
 have hde : Hid (m.A * m.E - m.B * m.D = m.det) := Lib.hid (by unfold Aff.det; grind)
 go_enter Tryz.func11, Tryz.ntmps11; go_wp2_with fail; refine rgn [w.heap.size + 1] [] fun hH => ?_; refine tk 0 hH ?_; refine tk 1 hH ?_; refine tk 2 hH ?_; refine tk 3 hH ?_; refine tk 5 hH ?_; refine tk 6 hH ?_; refine tk 7 hH ?_; refine tk 8 hH (st 4 fun K hK => ?_); go_simp; refine A3 (Ip (by decide)) ?_; intros; refine hd hK fun hH => st 9 fun K hK => ?_; go_simp; refine A3 (Ip (by decide)) ?_; intros; refine hd hK fun hH => st 10 fun K hK => ?_; go_simp; refine A3 (Nr (by decide)) ?_; intros; refine hd hK fun hH => st 11 fun K hK => ?_; go_simp; refine hd hK fun hH => dn ?_; clear hH; go_wp2_with fail; refine Ac rfl Tryz.underlying30 rfl (by kernel_rfl) rfl rfl rfl ?_; exact Ei.fin hde.out (by omega)
end
section
open Cel
theorem Ys {C : List FQ} {p : Rat × Rat} (hf : ∀ f ∈ C, f.v.nl = false ∧ f.v.nh = false) : Cf C p = true ↔ ∃ e ∈ C, onF e p := by
 unfold Cf; rw [List.any_eq_true]
 exact ⟨fun ⟨e, he, h⟩ => ⟨e, he, (T4 (hf e he)).1 h⟩, fun ⟨e, he, h⟩ => ⟨e, he, (T4 (hf e he)).2 h⟩⟩
theorem Qiy {m : Aff} (hm : m.det ≠ 0) {R : List (List (Rat × Rat))} (hR : ∀ L ∈ R, RingOK L) (hR' : ∀ L ∈ R.map (List.map m.to), RingOK L) (p : Rat × Rat) :
  Cf (Aj (R.map (List.map m.to))) (m.to p) = Cf (Aj R) p ∧ (Cf (Aj R) p = false → Ao (Aj (R.map (List.map m.to))) (m.to p) = Wn.sg m.det * Ao (Aj R) p) := by
 have h := Xi hm (Jz hR) (Jz hR') p
 have h1 := Ys (p := p) (fun f hf => (J5 hR f hf).2)
 have h2 := Ys (p := m.to p) (fun f hf => (J5 hR' f hf).2)
 refine ⟨?_, fun e => h.2 (fun hx => by rw [h1.2 hx] at e; cases e)⟩
 rw [Bool.eq_iff_iff, h1, h2]; exact h.1
end
section
set_option maxHeartbeats 4000000
set_option synthInstance.maxHeartbeats 1000000
set_option synthInstance.maxSize 100000
open Go.RowKit Cel
theorem Ua {w : World} {v : MW} {m : Aff} [h : Mk w v m] {gx gy : Bool} {ax bx ay by' : Option Addr} {lx cx mx ex ly cy my ey : Nat} {x y : Rat} [hx : CA w (.agg #[.bool gx, .slice ax lx cx, .slice bx mx ex]) x 10] [hy : CA w (.agg #[.bool gy, .slice ay ly cy, .slice by' my ey]) y 10] :
  Calls Tryz.prog 20 #[.agg #[.bool v.a.g, .slice v.a.a v.a.l v.a.c, .slice v.a.b v.a.m v.a.d, .bool v.b.g, .slice v.b.a v.b.l v.b.c, .slice v.b.b v.b.m v.b.d, .bool v.c.g, .slice v.c.a v.c.l v.c.c, .slice v.c.b v.c.m v.c.d, .bool v.d.g, .slice v.d.a v.d.l v.d.c, .slice v.d.b v.d.m v.d.d, .bool v.e.g, .slice v.e.a v.e.l v.e.c, .slice v.e.b v.e.m v.e.d, .bool v.f.g, .slice v.f.a v.f.l v.f.c, .slice v.f.b v.f.m v.f.d], .agg #[.bool gx, .slice ax lx cx, .slice bx mx ex, .bool gy, .slice ay ly cy, .slice by' my ey]] w (Jv w (m.to (x, y)).1 (m.to (x, y)).2 100) := by
 go_enter Tryz.func20, Tryz.ntmps20; go_wp2_with fail; refine rgn [w.heap.size + 1 + 1] [] fun hH => ?_; refine tk 0 hH ?_ (hy := fun wx hSw => by have hSx := Ex1.mk hSw; exact Hi rfl rfl (Bc Tryz.underlying52 rfl (by kernel_rfl))); refine tk 2 hH (st 1 fun K hK => ?_); go_simp; refine S8 (Xw (v := v)) ?_; intro w5 _ u k5; refine hd hK fun hH => st 3 fun K hK => ?_; go_simp; refine Au (K5 (k1x := 10) (k1y := 10) (by decide)) ?_; intro w6 _ nx dx px ny dy py i8 i9; refine hd hK fun hH => st 4 fun K hK => ?_; go_simp; refine Au (Zr (v := u) (p := ⟨⟨nx, dx, px⟩, ⟨ny, dy, py⟩⟩)) ?_; intro w7 _ nx2 dx2 px2 ny2 dy2 py2 j8 j9; refine hd hK fun hH => st 5 fun K hK => ?_; go_simp; refine F5 (Ub (by decide)) ?_; intros; refine hd hK fun hH => st 6 fun K hK => ?_; go_simp; refine hd hK fun hH => dn ?_; clear hH; go_wp2_with fail; refine Ac rfl Tryz.underlying70 rfl (by kernel_rfl) rfl rfl rfl ?_; exact Jv.fin rfl (by omega) rfl (by omega)
end
end Go.Proofs.YtpnpnlmlamfpmaaGreatDoor
