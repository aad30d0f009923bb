/-
  Texts of this claim, joined: Ln11, Ln12.
-/
import Derived.Test.YtdlnoeegboapkaaGreatDoorHKD
import Derived.Test.YtdlnoeegboapkaaGreatDoorHKG
namespace Go.Proofs.YtdlnoeegboapkaaGreatDoor
open Go.RowKit
set_option linter.unusedSimpArgs false
set_option linter.unusedVariables false
set_option maxHeartbeats 40000000
set_option maxRecDepth 100000
set_option synthInstance.maxHeartbeats 1000000
set_option synthInstance.maxSize 100000
section
def phiLZ (x y z : Int) (k : Nat) (u : Value) (W : World) : Prop := ∃ gx ax lx cx gy ay ly cy gz az lz cz, u = .agg #[.bool gx, .slice ax lx cx, .bool gy, .slice ay ly cy, .bool gz, .slice az lz cz] ∧ CZ W (.agg #[.bool gx, .slice ax lx cx]) x k ∧ CZ W (.agg #[.bool gy, .slice ay ly cy]) y k ∧ CZ W (.agg #[.bool gz, .slice az lz cz]) z k
instance {x y z : Int} {k : Nat} : Last (phiLZ x y z k) := ⟨fun _ _ _ hb ⟨gx, ax, lx, cx, gy, ay, ly, cy, gz, az, lz, cz, e, _, _, _⟩ => have := Kp1.mk hb; ⟨gx, ax, lx, cx, gy, ay, ly, cy, gz, az, lz, cz, e, inferInstance, inferInstance, inferInstance⟩⟩
def phiPAB (x y : Rat) (v : Bool) (k : Nat) (u : Value) (W : World) : Prop := ∃ gx ax lx cx aax llx ccx gy ay ly cy aay lly ccy, u = .tuple #[.agg #[.bool gx, .slice ax lx cx, .slice aax llx ccx, .bool gy, .slice ay ly cy, .slice aay lly ccy], .bool v] ∧ CA W (.agg #[.bool gx, .slice ax lx cx, .slice aax llx ccx]) x k ∧ CA W (.agg #[.bool gy, .slice ay ly cy, .slice aay lly ccy]) y k
instance {x y : Rat} {v : Bool} {k : Nat} : Last (phiPAB x y v k) := ⟨fun _ _ _ hb ⟨gx, ax, lx, cx, aax, llx, ccx, gy, ay, ly, cy, aay, lly, ccy, e, _, _⟩ => have := Kp1.mk hb; ⟨gx, ax, lx, cx, aax, llx, ccx, gy, ay, ly, cy, aay, lly, ccy, e, inferInstance, inferInstance⟩⟩
end
section
theorem geOf {w0 w : World} (e : Hid (w0 = w)) {b : Nat} (h : Ge w0 b) : Ge w b := by rw [← e.out]; exact h
theorem isgn_icmp (x y : Int) : isgn ((x : Rat) - (y : Rat)).num = icmp x y := by
  rw [← Rat.intCast_sub]
  show isgn (x - y) = _
  unfold isgn icmp
  repeat' split
  all_goals omega
theorem cmpL_int (a b c a' b' c' : Int) : cmpL (a : Rat) (b : Rat) (c : Rat) (a' : Rat) (b' : Rat) (c' : Rat) = or3 (icmp a a') (icmp b b') (icmp c c') := by
  unfold cmpL; rw [isgn_icmp, isgn_icmp, isgn_icmp]
theorem numCompareV {w : World} {v : Int} {g1 : Bool} {a1 : Option Addr} {l1 : Nat} {c1 : Nat} {x : Int} {g2 : Bool} {a2 : Option Addr} {l2 : Nat} {c2 : Nat} {y : Int} {k1 k2 : Nat} [h1 : CZ w (.agg #[.bool g1, .slice a1 l1 c1]) x k1] [h2 : CZ w (.agg #[.bool g2, .slice a2 l2 c2]) y k2] (b : k1 ≤ 900000 ∧ k2 ≤ 900000) (hv : Hid (icmp x y = v)) :
    Calls Tryz.prog 277 #[.agg #[.bool g1, .slice a1 l1 c1], .agg #[.bool g2, .slice a2 l2 c2]] w (fun e w' => e = .returned (.int .i64 v) ∧ Below w.heap.size w w') := by
  rw [← hv.out]; exact numCompareC b
theorem refRevC {w : World} {g1x g1y g1z : Bool} {a1x a1y a1z : Option Addr} {l1x c1x l1y c1y l1z c1z k1x k1y k1z : Nat} {la lb lc : Int} [h1x : CZ w (.agg #[.bool g1x, .slice a1x l1x c1x]) la k1x] [h1y : CZ w (.agg #[.bool g1y, .slice a1y l1y c1y]) lb k1y] [h1z : CZ w (.agg #[.bool g1z, .slice a1z l1z c1z]) lc k1z] :
    Calls Tryz.prog 237 #[.agg #[.bool g1x, .slice a1x l1x c1x, .bool g1y, .slice a1y l1y c1y, .bool g1z, .slice a1z l1z c1z]] w (CLZRet w (-la) (-lb) (-lc) (max k1x (max k1y k1z))) := by
  go_enter Tryz.func237, Tryz.ntmps237; go_wp2_with fail; refine rgn [w.heap.size + 1] [] fun hH => ?_; refine tk 0 hH ?_; refine tk 1 hH ?_; refine tk 3 hH ?_; refine tk 4 hH ?_; refine tk 6 hH ?_; refine tk 7 hH ?_; refine st 2 fun K hK => ?_; go_simp; (with_reducible refine Calls.cZ (numMinusC) ?_); intros; refine hd hK ?_; clear hH hK K; intro hH; refine st 5 fun K hK => ?_; go_simp; (with_reducible refine Calls.cZ (numMinusC) ?_); intros; refine hd hK ?_; clear hH hK K; intro hH; refine st 8 fun K hK => ?_; go_simp; (with_reducible refine Calls.cZ (numMinusC) ?_); intros; refine hd hK ?_; clear hH hK K; intro hH; refine tk 9 hH ?_; refine st 10 fun K hK => ?_; go_simp; refine hd hK ?_; clear hH hK K; intro hH; refine dn ?_; clear hH; go_wp2; refine ret_bx rfl Tryz.underlying163 rfl (by kernel_rfl) rfl rfl rfl ?_; exact CLZRet.fin rfl (by omega) rfl (by omega) rfl (by omega)
theorem refCmpV {w : World} {v : Int} {g1x g1y g1z g2x g2y g2z : Bool} {a1x a1y a1z a2x a2y a2z : Option Addr} {l1x c1x l1y c1y l1z c1z l2x c2x l2y c2y l2z c2z k1x k1y k1z k2x k2y k2z : Nat} {la lb lc ma mb mc : Int} [h1x : CZ w (.agg #[.bool g1x, .slice a1x l1x c1x]) la k1x] [h1y : CZ w (.agg #[.bool g1y, .slice a1y l1y c1y]) lb k1y] [h1z : CZ w (.agg #[.bool g1z, .slice a1z l1z c1z]) lc k1z] [h2x : CZ w (.agg #[.bool g2x, .slice a2x l2x c2x]) ma k2x] [h2y : CZ w (.agg #[.bool g2y, .slice a2y l2y c2y]) mb k2y] [h2z : CZ w (.agg #[.bool g2z, .slice a2z l2z c2z]) mc k2z] (b : k1x ≤ 300000 ∧ k1y ≤ 300000 ∧ k1z ≤ 300000 ∧ k2x ≤ 300000 ∧ k2y ≤ 300000 ∧ k2z ≤ 300000) (hv : Hid (cmpL ((la : Int) : Rat) ((lb : Int) : Rat) ((lc : Int) : Rat) ((ma : Int) : Rat) ((mb : Int) : Rat) ((mc : Int) : Rat) = v)) :
    Calls Tryz.prog 236 #[.agg #[.bool g1x, .slice a1x l1x c1x, .bool g1y, .slice a1y l1y c1y, .bool g1z, .slice a1z l1z c1z], .agg #[.bool g2x, .slice a2x l2x c2x, .bool g2y, .slice a2y l2y c2y, .bool g2z, .slice a2z l2z c2z]] w (fun e w' => e = .returned (.int .i64 v) ∧ Below w.heap.size w w') := by
  have HV : Hid (or3 (icmp la ma) (icmp lb mb) (icmp lc mc) = v) := by show _ = _; rw [← cmpL_int]; exact hv.out
  clear hv; obtain ⟨c1, q1⟩ : ∃ c, icmp la ma = c := ⟨_, rfl⟩; obtain ⟨c2, q2⟩ : ∃ c, icmp lb mb = c := ⟨_, rfl⟩; obtain ⟨c3, q3⟩ : ∃ c, icmp lc mc = c := ⟨_, rfl⟩; rw [q1, q2, q3] at HV; have H1 := Lib.hid q1; have H2 := Lib.hid q2; have H3 := Lib.hid q3; clear q1 q2 q3
  by_cases z1 : c1 = 0
  · subst z1
    by_cases z2 : c2 = 0
    · subst z2
      have HE : Hid (v = c3) := by show _ = _; rw [← HV.out]; simp [or3]
      go_enter Tryz.func236, Tryz.ntmps236
      go_wp2_with (first
      | (go_at_call 277; (with_reducible refine Calls.cE (numCompareV (by omega) H1) ?_); intros)
      | (go_at_call 277; (with_reducible refine Calls.cE (numCompareV (by omega) H2) ?_); intros)
      | (go_at_call 277; (with_reducible refine Calls.cE (numCompareV (by omega) H3) ?_); intros))
      go_ret
      exact E.fin (by rw [HE.out]; rfl)
    · have HE : Hid (v = c2) := by show _ = _; rw [← HV.out]; simp [or3, z2]
      have e1 : (c2 == 0) = false := by rw [beq_eq_false_iff_ne]; exact z2
      have e2 : (c2 != 0) = true := by simp [bne, e1]
      clear z2; go_enter Tryz.func236, Tryz.ntmps236
      go_wp2_with (first
      | (go_at_call 277; (with_reducible refine Calls.cE (numCompareV (by omega) H1) ?_); intros)
      | (go_at_call 277; (with_reducible refine Calls.cE (numCompareV (by omega) H2) ?_); intros)
      | (go_at_call 277; (with_reducible refine Calls.cE (numCompareV (by omega) H3) ?_); intros))
      go_ret
      exact E.fin (by rw [HE.out]; rfl)
  · have HE : Hid (v = c1) := by show _ = _; rw [← HV.out]; simp [or3, z1]
    have e1 : (c1 == 0) = false := by rw [beq_eq_false_iff_ne]; exact z1
    have e2 : (c1 != 0) = true := by simp [bne, e1]
    clear z1; go_enter Tryz.func236, Tryz.ntmps236
    go_wp2_with (first
      | (go_at_call 277; (with_reducible refine Calls.cE (numCompareV (by omega) H1) ?_); intros)
      | (go_at_call 277; (with_reducible refine Calls.cE (numCompareV (by omega) H2) ?_); intros)
      | (go_at_call 277; (with_reducible refine Calls.cE (numCompareV (by omega) H3) ?_); intros))
    go_ret
    exact E.fin (by rw [HE.out]; rfl)
def PQBRet (w : World) (x y : Rat) (v : Bool) (k : Nat) (e : Ending) (w' : World) : Prop := ∃ gx ax lx cx aax llx ccx gy ay ly cy aay lly ccy, e = .returned (.tuple #[.agg #[.bool gx, .slice ax lx cx, .slice aax llx ccx, .bool gy, .slice ay ly cy, .slice aay lly ccy], .bool v]) ∧ CQ w' (.agg #[.bool gx, .slice ax lx cx, .slice aax llx ccx]) x k ∧ CQ w' (.agg #[.bool gy, .slice ay ly cy, .slice aay lly ccy]) y k ∧ Below w.heap.size w w'
theorem Calls.cPQB {P : Program} {f : FuncId} {args : Array Value} {w : World} {x y : Rat} {v : Bool} {k : Nat} {K : Ending → World → Prop} (h : Calls P f args w (PQBRet w x y v k))
    (hK : ∀ w' [Kp1 w w'] (gx : Bool) (ax : Option Addr) (lx : Nat) (cx : Nat) (aax : Option Addr) (llx : Nat) (ccx : Nat) (gy : Bool) (ay : Option Addr) (ly : Nat) (cy : Nat) (aay : Option Addr) (lly : Nat) (ccy : Nat) [CQ w' (.agg #[.bool gx, .slice ax lx cx, .slice aax llx ccx]) x k] [CQ w' (.agg #[.bool gy, .slice ay ly cy, .slice aay lly ccy]) y k], K (.returned (.tuple #[.agg #[.bool gx, .slice ax lx cx, .slice aax llx ccx, .bool gy, .slice ay ly cy, .slice aay lly ccy], .bool v])) w') : Calls P f args w K := by
  refine h.mono ?_
  rintro e w' ⟨gx, ax, lx, cx, aax, llx, ccx, gy, ay, ly, cy, aay, lly, ccy, rfl, hx, hy, hb⟩
  exact @hK w' ⟨hb⟩ gx ax lx cx aax llx ccx gy ay ly cy aay lly ccy hx hy
theorem PQBRet.fin {w w' : World} {v : Bool} {gx : Bool} {ax : Option Addr} {lx : Nat} {cx : Nat} {aax : Option Addr} {llx : Nat} {ccx : Nat} {gy : Bool} {ay : Option Addr} {ly : Nat} {cy : Nat} {aay : Option Addr} {lly : Nat} {ccy : Nat} {x x' : Rat} {kx : Nat} {y y' : Rat} {ky : Nat} {k : Nat} [b : Kp w w'] [hx : CQ w' (.agg #[.bool gx, .slice ax lx cx, .slice aax llx ccx]) x kx] [hy : CQ w' (.agg #[.bool gy, .slice ay ly cy, .slice aay lly ccy]) y ky] (ex : x = x') (mx : kx ≤ k) (ey : y = y') (my : ky ≤ k) : PQBRet w x' y' v k (.returned (.tuple #[.agg #[.bool gx, .slice ax lx cx, .slice aax llx ccx, .bool gy, .slice ay ly cy, .slice aay lly ccy], .bool v])) w' :=
  ⟨_, _, _, _, _, _, _, _, _, _, _, _, _, _, rfl, hx.cast ex mx, hy.cast ey my, b.out⟩
theorem numSV {w : World} {v : Int} {g1 : Bool} {a1 aa1 : Option Addr} {l1 c1 ll1 cc1 : Nat} {x : Rat} {k1 : Nat} [h1 : CQ w (.agg #[.bool g1, .slice a1 l1 c1, .slice aa1 ll1 cc1]) x k1] (hv : Hid (isgn x.num = v)) :
    Calls Tryz.prog 54 #[.agg #[.bool g1, .slice a1 l1 c1, .slice aa1 ll1 cc1]] w (fun e w' => e = .returned (.int .i64 v) ∧ Below w.heap.size w w') := by
  rw [← hv.out]; exact numSC
theorem meet_dr {a b a' b' : Rat} (h : a * b' - b * a' ≠ 0) : a * b' - a' * b ≠ 0 := by
  rw [Rat.mul_comm a' b]; exact h
theorem refMeetOk {w : World} {g1x g1y g1z g2x g2y g2z : Bool} {a1x a1y a1z a2x a2y a2z : Option Addr} {l1x c1x l1y c1y l1z c1z l2x c2x l2y c2y l2z c2z k1x k1y k1z k2x k2y k2z : Nat} {la lb lc ma mb mc : Int} [h1x : CZ w (.agg #[.bool g1x, .slice a1x l1x c1x]) la k1x] [h1y : CZ w (.agg #[.bool g1y, .slice a1y l1y c1y]) lb k1y] [h1z : CZ w (.agg #[.bool g1z, .slice a1z l1z c1z]) lc k1z] [h2x : CZ w (.agg #[.bool g2x, .slice a2x l2x c2x]) ma k2x] [h2y : CZ w (.agg #[.bool g2y, .slice a2y l2y c2y]) mb k2y] [h2z : CZ w (.agg #[.bool g2z, .slice a2z l2z c2z]) mc k2z] (b : k1x ≤ 3000 ∧ k1y ≤ 3000 ∧ k1z ≤ 3000 ∧ k2x ≤ 3000 ∧ k2y ≤ 3000 ∧ k2z ≤ 3000) (HZ : Hid (decide (((la : Int) : Rat) * ((mb : Int) : Rat) - ((lb : Int) : Rat) * ((ma : Int) : Rat) = 0) = false)) :
    Calls Tryz.prog 175 #[.agg #[.bool g1x, .slice a1x l1x c1x, .bool g1y, .slice a1y l1y c1y, .bool g1z, .slice a1z l1z c1z], .agg #[.bool g2x, .slice a2x l2x c2x, .bool g2y, .slice a2y l2y c2y, .bool g2z, .slice a2z l2z c2z]] w (PQBRet w ((((lb : Int) : Rat) * ((mc : Int) : Rat) - ((mb : Int) : Rat) * ((lc : Int) : Rat)) / (((la : Int) : Rat) * ((mb : Int) : Rat) - ((ma : Int) : Rat) * ((lb : Int) : Rat))) ((((ma : Int) : Rat) * ((lc : Int) : Rat) - ((la : Int) : Rat) * ((mc : Int) : Rat)) / (((la : Int) : Rat) * ((mb : Int) : Rat) - ((ma : Int) : Rat) * ((lb : Int) : Rat))) true (3 * (k1x + k1y + k1z + k2x + k2y + k2z) + 100)) := by
  have hne : ((la : Int) : Rat) * ((mb : Int) : Rat) - ((ma : Int) : Rat) * ((lb : Int) : Rat) ≠ 0 := meet_dr (of_decide_eq_false HZ.out)
  have HN := Lib.hid hne; obtain ⟨s, hs⟩ : ∃ s, isgn (((la : Int) : Rat) * ((mb : Int) : Rat) - ((ma : Int) : Rat) * ((lb : Int) : Rat)).num = s := ⟨_, rfl⟩; have HS := Lib.hid hs
  have e1 : (s == 0) = false := by rw [beq_eq_false_iff_ne, ← hs]; exact fun e => hne (isg_zero.1 e)
  clear hs hne; go_enter Tryz.func175, Tryz.ntmps175
  go_upto_region 1 with fail
  go_cut [6] from 9 to 23 (fun t wx => ∃ (b6 : Nat) (g6 : Bool) (a6 : Option Addr) (l6 c6 : Nat) (aa6 : Option Addr) (ll6 cc6 : Nat), t = .pointer (some ⟨b6, 0, none⟩) ∧ Bx wx b6 45 [.bool g6, .slice a6 l6 c6, .slice aa6 ll6 cc6] ∧ CQ wx (.agg #[.bool g6, .slice a6 l6 c6, .slice aa6 ll6 cc6]) (((la : Int) : Rat) * ((mb : Int) : Rat) - ((ma : Int) : Rat) * ((lb : Int) : Rat)) (k1x + k1y + k1z + k2x + k2y + k2z + 20) ∧ Kp (((w.alloc (.cells #[.bool g1x, .slice a1x l1x c1x, .bool g1y, .slice a1y l1y c1y, .bool g1z, .slice a1z l1z c1z] 163)).alloc (.cells #[.bool g2x, .slice a2x l2x c2x, .bool g2y, .slice a2y l2y c2y, .bool g2z, .slice a2z l2z c2z] 163)).alloc (.cells #[.bool false, .slice none 0 0, .slice none 0 0, .bool false, .slice none 0 0, .slice none 0 0] 47)) wx)
  case first =>
    refine rgnW [] [] fun w0 ew hH => ?_
    refine tk 0 hH ?_; refine tk 1 hH ?_; refine tk 3 hH ?_; refine tk 4 hH ?_; refine tk 7 hH ?_; refine tk 8 hH ?_; refine tk 10 hH ?_; refine tk 11 hH ?_
    refine wpAnyT_inv [(2, 11), (5, 14), (6, 15), (9, 18), (12, 21), (13, 22), (14, 23), (15, 6)] (fun i => match i with | 2 => [] | 5 => [2] | 6 => [2, 5] | 9 => [6] | 12 => [9] | 13 => [9, 12] | 14 => [6, 13] | 15 => [] | _ => []) [phiQ (((la : Int) : Rat)) k1x, phiQ (((mb : Int) : Rat)) k2y, phiQ (((la : Int) : Rat) * ((mb : Int) : Rat)) (k1x + k2y + 4), phiQ (((ma : Int) : Rat)) k2x, phiQ (((lb : Int) : Rat)) k1y, phiQ (((ma : Int) : Rat) * ((lb : Int) : Rat)) (k2x + k1y + 4), phiQ (((la : Int) : Rat) * ((mb : Int) : Rat) - ((ma : Int) : Rat) * ((lb : Int) : Rat)) (k1x + k1y + k1z + k2x + k2y + k2z + 20), phiB w0 45 [.bool false, .slice none 0 0, .slice none 0 0]] [15] 1 (by rfl) (by decide +kernel) (by decide) (by decide) (by kernel_rfl) ?_ (fun _ _ => Ex.below) hH ?_ ?_
    · intro i hi v W h; simp only [List.mem_cons, List.not_mem_nil, or_false] at hi
      rcases hi with rfl
      all_goals exact phiB.old h
    · intro i hi f W hSw hbw hp; have kw := Kp1.mk hbw
      have kv := kpOf ew (W := W)
      have kz : Kz w0 W := ⟨kv.out.size⟩
      have hSx := Ex1.mk hSw
      clear hH; simp only [List.map_cons, List.map_nil, List.mem_cons, List.not_mem_nil, or_false] at hi
      rcases hi with rfl | rfl | rfl | rfl | rfl | rfl | rfl | rfl
      · refine ⟨_, by simp; rfl, fun K' hK => ?_⟩
        clear hp; simp only [putAll, Act.put, List.setIfInBounds_toArray, List.set_cons_zero, List.set_cons_succ] at hK ⊢
        generalize f 2 = v2 at *
        generalize f 5 = v5 at *
        generalize f 6 = v6 at *
        generalize f 9 = v9 at *
        generalize f 12 = v12 at *
        generalize f 13 = v13 at *
        generalize f 14 = v14 at *
        generalize f 15 = v15 at *
        go_simp; (with_reducible refine Calls.cQ (refqC) ?_); intros
        refine hK.out _ _ _ rfl (inferInstance : Kp W _).out ?_ ?_
        · exact phiQ.fin rfl (by omega)
        · exact fun h => absurd h (by decide)
      · have h2 : phiQ (((la : Int) : Rat)) k1x (f 2) W := hp 2 (by decide)
        refine ⟨_, by simp; rfl, fun K' hK => ?_⟩
        clear hp; simp only [putAll, Act.put, List.setIfInBounds_toArray, List.set_cons_zero, List.set_cons_succ] at hK ⊢
        generalize f 2 = v2 at *
        generalize f 5 = v5 at *
        generalize f 6 = v6 at *
        generalize f 9 = v9 at *
        generalize f 12 = v12 at *
        generalize f 13 = v13 at *
        generalize f 14 = v14 at *
        generalize f 15 = v15 at *
        obtain ⟨g2, a2, l2, c2, aa2, ll2, cc2, rfl, i2⟩ := h2; go_simp; (with_reducible refine Calls.cQ (refqC) ?_); intros
        refine hK.out _ _ _ rfl (inferInstance : Kp W _).out ?_ ?_
        · exact phiQ.fin rfl (by omega)
        · exact fun h => absurd h (by decide)
      · have h2 : phiQ (((la : Int) : Rat)) k1x (f 2) W := hp 2 (by decide)
        have h5 : phiQ (((mb : Int) : Rat)) k2y (f 5) W := hp 5 (by decide)
        refine ⟨_, by simp; rfl, fun K' hK => ?_⟩
        clear hp; simp only [putAll, Act.put, List.setIfInBounds_toArray, List.set_cons_zero, List.set_cons_succ] at hK ⊢
        generalize f 2 = v2 at *
        generalize f 5 = v5 at *
        generalize f 6 = v6 at *
        generalize f 9 = v9 at *
        generalize f 12 = v12 at *
        generalize f 13 = v13 at *
        generalize f 14 = v14 at *
        generalize f 15 = v15 at *
        obtain ⟨g2, a2, l2, c2, aa2, ll2, cc2, rfl, i2⟩ := h2; obtain ⟨g5, a5, l5, c5, aa5, ll5, cc5, rfl, i5⟩ := h5; go_simp; (with_reducible refine Calls.cQ (numTimesC (by omega)) ?_); intros
        refine hK.out _ _ _ rfl (inferInstance : Kp W _).out ?_ ?_
        · exact phiQ.fin rfl (by omega)
        · exact fun h => absurd h (by decide)
      · have h6 : phiQ (((la : Int) : Rat) * ((mb : Int) : Rat)) (k1x + k2y + 4) (f 6) W := hp 6 (by decide)
        refine ⟨_, by simp; rfl, fun K' hK => ?_⟩
        clear hp; simp only [putAll, Act.put, List.setIfInBounds_toArray, List.set_cons_zero, List.set_cons_succ] at hK ⊢
        generalize f 2 = v2 at *
        generalize f 5 = v5 at *
        generalize f 6 = v6 at *
        generalize f 9 = v9 at *
        generalize f 12 = v12 at *
        generalize f 13 = v13 at *
        generalize f 14 = v14 at *
        generalize f 15 = v15 at *
        obtain ⟨g6, a6, l6, c6, aa6, ll6, cc6, rfl, i6⟩ := h6; go_simp; (with_reducible refine Calls.cQ (refqC) ?_); intros
        refine hK.out _ _ _ rfl (inferInstance : Kp W _).out ?_ ?_
        · exact phiQ.fin rfl (by omega)
        · exact fun h => absurd h (by decide)
      · have h9 : phiQ (((ma : Int) : Rat)) k2x (f 9) W := hp 9 (by decide)
        refine ⟨_, by simp; rfl, fun K' hK => ?_⟩
        clear hp; simp only [putAll, Act.put, List.setIfInBounds_toArray, List.set_cons_zero, List.set_cons_succ] at hK ⊢
        generalize f 2 = v2 at *
        generalize f 5 = v5 at *
        generalize f 6 = v6 at *
        generalize f 9 = v9 at *
        generalize f 12 = v12 at *
        generalize f 13 = v13 at *
        generalize f 14 = v14 at *
        generalize f 15 = v15 at *
        obtain ⟨g9, a9, l9, c9, aa9, ll9, cc9, rfl, i9⟩ := h9; go_simp; (with_reducible refine Calls.cQ (refqC) ?_); intros
        refine hK.out _ _ _ rfl (inferInstance : Kp W _).out ?_ ?_
        · exact phiQ.fin rfl (by omega)
        · exact fun h => absurd h (by decide)
      · have h9 : phiQ (((ma : Int) : Rat)) k2x (f 9) W := hp 9 (by decide)
        have h12 : phiQ (((lb : Int) : Rat)) k1y (f 12) W := hp 12 (by decide)
        refine ⟨_, by simp; rfl, fun K' hK => ?_⟩
        clear hp; simp only [putAll, Act.put, List.setIfInBounds_toArray, List.set_cons_zero, List.set_cons_succ] at hK ⊢
        generalize f 2 = v2 at *
        generalize f 5 = v5 at *
        generalize f 6 = v6 at *
        generalize f 9 = v9 at *
        generalize f 12 = v12 at *
        generalize f 13 = v13 at *
        generalize f 14 = v14 at *
        generalize f 15 = v15 at *
        obtain ⟨g9, a9, l9, c9, aa9, ll9, cc9, rfl, i9⟩ := h9; obtain ⟨g12, a12, l12, c12, aa12, ll12, cc12, rfl, i12⟩ := h12; go_simp; (with_reducible refine Calls.cQ (numTimesC (by omega)) ?_); intros
        refine hK.out _ _ _ rfl (inferInstance : Kp W _).out ?_ ?_
        · exact phiQ.fin rfl (by omega)
        · exact fun h => absurd h (by decide)
      · have h6 : phiQ (((la : Int) : Rat) * ((mb : Int) : Rat)) (k1x + k2y + 4) (f 6) W := hp 6 (by decide)
        have h13 : phiQ (((ma : Int) : Rat) * ((lb : Int) : Rat)) (k2x + k1y + 4) (f 13) W := hp 13 (by decide)
        refine ⟨_, by simp; rfl, fun K' hK => ?_⟩
        clear hp; simp only [putAll, Act.put, List.setIfInBounds_toArray, List.set_cons_zero, List.set_cons_succ] at hK ⊢
        generalize f 2 = v2 at *
        generalize f 5 = v5 at *
        generalize f 6 = v6 at *
        generalize f 9 = v9 at *
        generalize f 12 = v12 at *
        generalize f 13 = v13 at *
        generalize f 14 = v14 at *
        generalize f 15 = v15 at *
        obtain ⟨g6, a6, l6, c6, aa6, ll6, cc6, rfl, i6⟩ := h6; obtain ⟨g13, a13, l13, c13, aa13, ll13, cc13, rfl, i13⟩ := h13; go_simp; (with_reducible refine Calls.cQ (numSubC (by omega)) ?_); intros
        refine hK.out _ _ _ rfl (inferInstance : Kp W _).out ?_ ?_
        · exact phiQ.fin rfl (by omega)
        · exact fun h => absurd h (by decide)
      · refine ⟨_, by simp; rfl, fun K' hK => ?_⟩
        clear hp; simp only [putAll, Act.put, List.setIfInBounds_toArray, List.set_cons_zero, List.set_cons_succ] at hK ⊢
        generalize f 2 = v2 at *
        generalize f 5 = v5 at *
        generalize f 6 = v6 at *
        generalize f 9 = v9 at *
        generalize f 12 = v12 at *
        generalize f 13 = v13 at *
        generalize f 14 = v14 at *
        generalize f 15 = v15 at *
        go_simp
        refine hK.out _ _ _ rfl (inferInstance : Kp W _).out ?_ ?_
        · exact phiB.fin
        · exact fun _ => ⟨_, rfl, Nat.le_refl _⟩
    · intro f W hSw hbw hf hne; have kw := Kp1.mk hbw
      have hSx := Ex1.mk hSw
      clear hH
      have kv := kpOf ew (W := W)
      have kz : Kz w0 W := ⟨kv.out.size⟩
      have h2 : phiQ (((la : Int) : Rat)) k1x (f 2) W := hf 2 (by decide)
      have h5 : phiQ (((mb : Int) : Rat)) k2y (f 5) W := hf 5 (by decide)
      have h6 : phiQ (((la : Int) : Rat) * ((mb : Int) : Rat)) (k1x + k2y + 4) (f 6) W := hf 6 (by decide)
      have h9 : phiQ (((ma : Int) : Rat)) k2x (f 9) W := hf 9 (by decide)
      have h12 : phiQ (((lb : Int) : Rat)) k1y (f 12) W := hf 12 (by decide)
      have h13 : phiQ (((ma : Int) : Rat) * ((lb : Int) : Rat)) (k2x + k1y + 4) (f 13) W := hf 13 (by decide)
      have h14 : phiQ (((la : Int) : Rat) * ((mb : Int) : Rat) - ((ma : Int) : Rat) * ((lb : Int) : Rat)) (k1x + k1y + k1z + k2x + k2y + k2z + 20) (f 14) W := hf 14 (by decide)
      have h15 : phiB w0 45 [.bool false, .slice none 0 0, .slice none 0 0] (f 15) W := hf 15 (by decide)
      clear hf hne; simp only [putAll, lset, List.map_cons, List.map_nil, Act.put, List.setIfInBounds_toArray, List.set_cons_zero, List.set_cons_succ]
      generalize f 2 = v2 at *
      generalize f 5 = v5 at *
      generalize f 6 = v6 at *
      generalize f 9 = v9 at *
      generalize f 12 = v12 at *
      generalize f 13 = v13 at *
      generalize f 14 = v14 at *
      generalize f 15 = v15 at *
      obtain ⟨g2, a2, l2, c2, aa2, ll2, cc2, rfl, i2⟩ := h2; obtain ⟨g5, a5, l5, c5, aa5, ll5, cc5, rfl, i5⟩ := h5; obtain ⟨g6, a6, l6, c6, aa6, ll6, cc6, rfl, i6⟩ := h6; obtain ⟨g9, a9, l9, c9, aa9, ll9, cc9, rfl, i9⟩ := h9; obtain ⟨g12, a12, l12, c12, aa12, ll12, cc12, rfl, i12⟩ := h12; obtain ⟨g13, a13, l13, c13, aa13, ll13, cc13, rfl, i13⟩ := h13; obtain ⟨g14, a14, l14, c14, aa14, ll14, cc14, rfl, i14⟩ := h14; obtain ⟨b15, rfl, i15, j15, k15⟩ := h15
      have nw15 := nwOf ew j15
      have gg15 := ggOf ew k15
      have gl15 : Ge w b15 := ⟨by have h2 := j15.out; rw [ew.out] at h2; exact Nat.le_trans (inferInstance : Kp w _).out.size h2⟩
      have ge15 := geOf ew j15
      have hH := hSw
      refine st 16 fun K hK => ?_; go_simp; refine hd hK ?_; clear hH hK K; intro hH; refine dn ?_; clear hH; go_wp2_with fail; go_meet; exact ⟨_, _, _, _, _, _, _, _, rfl, inferInstance, inferInstance, inferInstance⟩
  case rest =>
   obtain ⟨b6, g6, a6, l6, c6, aa6, ll6, cc6, rfl, i1, i2, ⟨i3⟩⟩ := hcut; have i4 := Kp1.mk i3
   have i5 : Kp w wc := inferInstance
   go_upto_region 4 with (first | (go_at_call 54; (with_reducible refine Calls.cE (numSV HS) ?_); intros))
   go_cut [7] from 28 to 42 (fun t wx => ∃ (b7 : Nat) (g7 : Bool) (a7 : Option Addr) (l7 c7 : Nat) (aa7 : Option Addr) (ll7 cc7 : Nat), t = .pointer (some ⟨b7, 0, none⟩) ∧ Bx wx b7 45 [.bool g7, .slice a7 l7 c7, .slice aa7 ll7 cc7] ∧ CQ wx (.agg #[.bool g7, .slice a7 l7 c7, .slice aa7 ll7 cc7]) (((lb : Int) : Rat) * ((mc : Int) : Rat) - ((mb : Int) : Rat) * ((lc : Int) : Rat)) (k1x + k1y + k1z + k2x + k2y + k2z + 20) ∧ Kp wc wx)
   case first =>
    refine rgnW [] [] fun w0 ew hH => ?_
    refine tk 0 hH ?_; refine tk 1 hH ?_; refine tk 3 hH ?_; refine tk 4 hH ?_; refine tk 7 hH ?_; refine tk 8 hH ?_; refine tk 10 hH ?_; refine tk 11 hH ?_
    refine wpAnyT_inv [(2, 30), (5, 33), (6, 34), (9, 37), (12, 40), (13, 41), (14, 42), (15, 7)] (fun i => match i with | 2 => [] | 5 => [2] | 6 => [2, 5] | 9 => [6] | 12 => [9] | 13 => [9, 12] | 14 => [6, 13] | 15 => [] | _ => []) [phiQ (((lb : Int) : Rat)) k1y, phiQ (((mc : Int) : Rat)) k2z, phiQ (((lb : Int) : Rat) * ((mc : Int) : Rat)) (k1y + k2z + 4), phiQ (((mb : Int) : Rat)) k2y, phiQ (((lc : Int) : Rat)) k1z, phiQ (((mb : Int) : Rat) * ((lc : Int) : Rat)) (k2y + k1z + 4), phiQ (((lb : Int) : Rat) * ((mc : Int) : Rat) - ((mb : Int) : Rat) * ((lc : Int) : Rat)) (k1x + k1y + k1z + k2x + k2y + k2z + 20), phiB w0 45 [.bool false, .slice none 0 0, .slice none 0 0]] [15] 1 (by rfl) (by decide +kernel) (by decide) (by decide) (by kernel_rfl) ?_ (fun _ _ => Ex.below) hH ?_ ?_
    · intro i hi v W h; simp only [List.mem_cons, List.not_mem_nil, or_false] at hi
      rcases hi with rfl
      all_goals exact phiB.old h
    · intro i hi f W hSw hbw hp; have kw := Kp1.mk hbw
      have kv := kpOf ew (W := W)
      have kz : Kz w0 W := ⟨kv.out.size⟩
      have hSx := Ex1.mk hSw
      clear hH; simp only [List.map_cons, List.map_nil, List.mem_cons, List.not_mem_nil, or_false] at hi
      rcases hi with rfl | rfl | rfl | rfl | rfl | rfl | rfl | rfl
      · refine ⟨_, by simp; rfl, fun K' hK => ?_⟩
        clear hp; simp only [putAll, Act.put, List.setIfInBounds_toArray, List.set_cons_zero, List.set_cons_succ] at hK ⊢
        generalize f 2 = v2 at *
        generalize f 5 = v5 at *
        generalize f 6 = v6 at *
        generalize f 9 = v9 at *
        generalize f 12 = v12 at *
        generalize f 13 = v13 at *
        generalize f 14 = v14 at *
        generalize f 15 = v15 at *
        go_simp; (with_reducible refine Calls.cQ (refqC) ?_); intros
        refine hK.out _ _ _ rfl (inferInstance : Kp W _).out ?_ ?_
        · exact phiQ.fin rfl (by omega)
        · exact fun h => absurd h (by decide)
      · have h2 : phiQ (((lb : Int) : Rat)) k1y (f 2) W := hp 2 (by decide)
        refine ⟨_, by simp; rfl, fun K' hK => ?_⟩
        clear hp; simp only [putAll, Act.put, List.setIfInBounds_toArray, List.set_cons_zero, List.set_cons_succ] at hK ⊢
        generalize f 2 = v2 at *
        generalize f 5 = v5 at *
        generalize f 6 = v6 at *
        generalize f 9 = v9 at *
        generalize f 12 = v12 at *
        generalize f 13 = v13 at *
        generalize f 14 = v14 at *
        generalize f 15 = v15 at *
        obtain ⟨g2, a2, l2, c2, aa2, ll2, cc2, rfl, i2⟩ := h2; go_simp; (with_reducible refine Calls.cQ (refqC) ?_); intros
        refine hK.out _ _ _ rfl (inferInstance : Kp W _).out ?_ ?_
        · exact phiQ.fin rfl (by omega)
        · exact fun h => absurd h (by decide)
      · have h2 : phiQ (((lb : Int) : Rat)) k1y (f 2) W := hp 2 (by decide)
        have h5 : phiQ (((mc : Int) : Rat)) k2z (f 5) W := hp 5 (by decide)
        refine ⟨_, by simp; rfl, fun K' hK => ?_⟩
        clear hp; simp only [putAll, Act.put, List.setIfInBounds_toArray, List.set_cons_zero, List.set_cons_succ] at hK ⊢
        generalize f 2 = v2 at *
        generalize f 5 = v5 at *
        generalize f 6 = v6 at *
        generalize f 9 = v9 at *
        generalize f 12 = v12 at *
        generalize f 13 = v13 at *
        generalize f 14 = v14 at *
        generalize f 15 = v15 at *
        obtain ⟨g2, a2, l2, c2, aa2, ll2, cc2, rfl, i2⟩ := h2; obtain ⟨g5, a5, l5, c5, aa5, ll5, cc5, rfl, i5⟩ := h5; go_simp; (with_reducible refine Calls.cQ (numTimesC (by omega)) ?_); intros
        refine hK.out _ _ _ rfl (inferInstance : Kp W _).out ?_ ?_
        · exact phiQ.fin rfl (by omega)
        · exact fun h => absurd h (by decide)
      · have h6 : phiQ (((lb : Int) : Rat) * ((mc : Int) : Rat)) (k1y + k2z + 4) (f 6) W := hp 6 (by decide)
        refine ⟨_, by simp; rfl, fun K' hK => ?_⟩
        clear hp; simp only [putAll, Act.put, List.setIfInBounds_toArray, List.set_cons_zero, List.set_cons_succ] at hK ⊢
        generalize f 2 = v2 at *
        generalize f 5 = v5 at *
        generalize f 6 = v6 at *
        generalize f 9 = v9 at *
        generalize f 12 = v12 at *
        generalize f 13 = v13 at *
        generalize f 14 = v14 at *
        generalize f 15 = v15 at *
        obtain ⟨g6, a6, l6, c6, aa6, ll6, cc6, rfl, i6⟩ := h6; go_simp; (with_reducible refine Calls.cQ (refqC) ?_); intros
        refine hK.out _ _ _ rfl (inferInstance : Kp W _).out ?_ ?_
        · exact phiQ.fin rfl (by omega)
        · exact fun h => absurd h (by decide)
      · have h9 : phiQ (((mb : Int) : Rat)) k2y (f 9) W := hp 9 (by decide)
        refine ⟨_, by simp; rfl, fun K' hK => ?_⟩
        clear hp; simp only [putAll, Act.put, List.setIfInBounds_toArray, List.set_cons_zero, List.set_cons_succ] at hK ⊢
        generalize f 2 = v2 at *
        generalize f 5 = v5 at *
        generalize f 6 = v6 at *
        generalize f 9 = v9 at *
        generalize f 12 = v12 at *
        generalize f 13 = v13 at *
        generalize f 14 = v14 at *
        generalize f 15 = v15 at *
        obtain ⟨g9, a9, l9, c9, aa9, ll9, cc9, rfl, i9⟩ := h9; go_simp; (with_reducible refine Calls.cQ (refqC) ?_); intros
        refine hK.out _ _ _ rfl (inferInstance : Kp W _).out ?_ ?_
        · exact phiQ.fin rfl (by omega)
        · exact fun h => absurd h (by decide)
      · have h9 : phiQ (((mb : Int) : Rat)) k2y (f 9) W := hp 9 (by decide)
        have h12 : phiQ (((lc : Int) : Rat)) k1z (f 12) W := hp 12 (by decide)
        refine ⟨_, by simp; rfl, fun K' hK => ?_⟩
        clear hp; simp only [putAll, Act.put, List.setIfInBounds_toArray, List.set_cons_zero, List.set_cons_succ] at hK ⊢
        generalize f 2 = v2 at *
        generalize f 5 = v5 at *
        generalize f 6 = v6 at *
        generalize f 9 = v9 at *
        generalize f 12 = v12 at *
        generalize f 13 = v13 at *
        generalize f 14 = v14 at *
        generalize f 15 = v15 at *
        obtain ⟨g9, a9, l9, c9, aa9, ll9, cc9, rfl, i9⟩ := h9; obtain ⟨g12, a12, l12, c12, aa12, ll12, cc12, rfl, i12⟩ := h12; go_simp; (with_reducible refine Calls.cQ (numTimesC (by omega)) ?_); intros
        refine hK.out _ _ _ rfl (inferInstance : Kp W _).out ?_ ?_
        · exact phiQ.fin rfl (by omega)
        · exact fun h => absurd h (by decide)
      · have h6 : phiQ (((lb : Int) : Rat) * ((mc : Int) : Rat)) (k1y + k2z + 4) (f 6) W := hp 6 (by decide)
        have h13 : phiQ (((mb : Int) : Rat) * ((lc : Int) : Rat)) (k2y + k1z + 4) (f 13) W := hp 13 (by decide)
        refine ⟨_, by simp; rfl, fun K' hK => ?_⟩
        clear hp; simp only [putAll, Act.put, List.setIfInBounds_toArray, List.set_cons_zero, List.set_cons_succ] at hK ⊢
        generalize f 2 = v2 at *
        generalize f 5 = v5 at *
        generalize f 6 = v6 at *
        generalize f 9 = v9 at *
        generalize f 12 = v12 at *
        generalize f 13 = v13 at *
        generalize f 14 = v14 at *
        generalize f 15 = v15 at *
        obtain ⟨g6, a6, l6, c6, aa6, ll6, cc6, rfl, i6⟩ := h6; obtain ⟨g13, a13, l13, c13, aa13, ll13, cc13, rfl, i13⟩ := h13; go_simp; (with_reducible refine Calls.cQ (numSubC (by omega)) ?_); intros
        refine hK.out _ _ _ rfl (inferInstance : Kp W _).out ?_ ?_
        · exact phiQ.fin rfl (by omega)
        · exact fun h => absurd h (by decide)
      · refine ⟨_, by simp; rfl, fun K' hK => ?_⟩
        clear hp; simp only [putAll, Act.put, List.setIfInBounds_toArray, List.set_cons_zero, List.set_cons_succ] at hK ⊢
        generalize f 2 = v2 at *
        generalize f 5 = v5 at *
        generalize f 6 = v6 at *
        generalize f 9 = v9 at *
        generalize f 12 = v12 at *
        generalize f 13 = v13 at *
        generalize f 14 = v14 at *
        generalize f 15 = v15 at *
        go_simp
        refine hK.out _ _ _ rfl (inferInstance : Kp W _).out ?_ ?_
        · exact phiB.fin
        · exact fun _ => ⟨_, rfl, Nat.le_refl _⟩
    · intro f W hSw hbw hf hne; have kw := Kp1.mk hbw
      have hSx := Ex1.mk hSw
      clear hH
      have kv := kpOf ew (W := W)
      have kz : Kz w0 W := ⟨kv.out.size⟩
      have h2 : phiQ (((lb : Int) : Rat)) k1y (f 2) W := hf 2 (by decide)
      have h5 : phiQ (((mc : Int) : Rat)) k2z (f 5) W := hf 5 (by decide)
      have h6 : phiQ (((lb : Int) : Rat) * ((mc : Int) : Rat)) (k1y + k2z + 4) (f 6) W := hf 6 (by decide)
      have h9 : phiQ (((mb : Int) : Rat)) k2y (f 9) W := hf 9 (by decide)
      have h12 : phiQ (((lc : Int) : Rat)) k1z (f 12) W := hf 12 (by decide)
      have h13 : phiQ (((mb : Int) : Rat) * ((lc : Int) : Rat)) (k2y + k1z + 4) (f 13) W := hf 13 (by decide)
      have h14 : phiQ (((lb : Int) : Rat) * ((mc : Int) : Rat) - ((mb : Int) : Rat) * ((lc : Int) : Rat)) (k1x + k1y + k1z + k2x + k2y + k2z + 20) (f 14) W := hf 14 (by decide)
      have h15 : phiB w0 45 [.bool false, .slice none 0 0, .slice none 0 0] (f 15) W := hf 15 (by decide)
      clear hf hne; simp only [putAll, lset, List.map_cons, List.map_nil, Act.put, List.setIfInBounds_toArray, List.set_cons_zero, List.set_cons_succ]
      generalize f 2 = v2 at *
      generalize f 5 = v5 at *
      generalize f 6 = v6 at *
      generalize f 9 = v9 at *
      generalize f 12 = v12 at *
      generalize f 13 = v13 at *
      generalize f 14 = v14 at *
      generalize f 15 = v15 at *
      obtain ⟨g2, a2, l2, c2, aa2, ll2, cc2, rfl, i2⟩ := h2; obtain ⟨g5, a5, l5, c5, aa5, ll5, cc5, rfl, i5⟩ := h5; obtain ⟨g6, a6, l6, c6, aa6, ll6, cc6, rfl, i6⟩ := h6; obtain ⟨g9, a9, l9, c9, aa9, ll9, cc9, rfl, i9⟩ := h9; obtain ⟨g12, a12, l12, c12, aa12, ll12, cc12, rfl, i12⟩ := h12; obtain ⟨g13, a13, l13, c13, aa13, ll13, cc13, rfl, i13⟩ := h13; obtain ⟨g14, a14, l14, c14, aa14, ll14, cc14, rfl, i14⟩ := h14; obtain ⟨b15, rfl, i15, j15, k15⟩ := h15
      have nw15 := nwOf ew j15
      have gg15 := ggOf ew k15
      have gl15 : Ge w b15 := ⟨by have h2 := j15.out; rw [ew.out] at h2; exact Nat.le_trans (inferInstance : Kp w _).out.size h2⟩
      have ge15 : Ge wc b15 := ⟨by have h2 := (geOf ew j15).out; exact Nat.le_trans (inferInstance : Kp wc _).out.size h2⟩
      have hH := hSw
      refine st 16 fun K hK => ?_; go_simp; refine hd hK ?_; clear hH hK K; intro hH; refine dn ?_; clear hH; go_wp2_with fail; go_meet; exact ⟨_, _, _, _, _, _, _, _, rfl, inferInstance, inferInstance, inferInstance⟩
   case rest =>
    obtain ⟨b7, g7, a7, l7, c7, aa7, ll7, cc7, rfl, j1, j2, ⟨j3⟩⟩ := hcut; have j4 := Kp1.mk j3
    have j5 : Kp w wc := inferInstance
    go_upto_region 5 with fail
    go_cut [8] from 43 to 57 (fun t wx => ∃ (b8 : Nat) (g8 : Bool) (a8 : Option Addr) (l8 c8 : Nat) (aa8 : Option Addr) (ll8 cc8 : Nat), t = .pointer (some ⟨b8, 0, none⟩) ∧ Bx wx b8 45 [.bool g8, .slice a8 l8 c8, .slice aa8 ll8 cc8] ∧ CQ wx (.agg #[.bool g8, .slice a8 l8 c8, .slice aa8 ll8 cc8]) (((ma : Int) : Rat) * ((lc : Int) : Rat) - ((la : Int) : Rat) * ((mc : Int) : Rat)) (k1x + k1y + k1z + k2x + k2y + k2z + 20) ∧ Kp wc wx)
    case first =>
     refine rgnW [] [] fun w0 ew hH => ?_
     refine tk 0 hH ?_; refine tk 1 hH ?_; refine tk 3 hH ?_; refine tk 4 hH ?_; refine tk 7 hH ?_; refine tk 8 hH ?_; refine tk 10 hH ?_; refine tk 11 hH ?_
     refine wpAnyT_inv [(2, 45), (5, 48), (6, 49), (9, 52), (12, 55), (13, 56), (14, 57), (15, 8)] (fun i => match i with | 2 => [] | 5 => [2] | 6 => [2, 5] | 9 => [6] | 12 => [9] | 13 => [9, 12] | 14 => [6, 13] | 15 => [] | _ => []) [phiQ (((ma : Int) : Rat)) k2x, phiQ (((lc : Int) : Rat)) k1z, phiQ (((ma : Int) : Rat) * ((lc : Int) : Rat)) (k2x + k1z + 4), phiQ (((la : Int) : Rat)) k1x, phiQ (((mc : Int) : Rat)) k2z, phiQ (((la : Int) : Rat) * ((mc : Int) : Rat)) (k1x + k2z + 4), phiQ (((ma : Int) : Rat) * ((lc : Int) : Rat) - ((la : Int) : Rat) * ((mc : Int) : Rat)) (k1x + k1y + k1z + k2x + k2y + k2z + 20), phiB w0 45 [.bool false, .slice none 0 0, .slice none 0 0]] [15] 1 (by rfl) (by decide +kernel) (by decide) (by decide) (by kernel_rfl) ?_ (fun _ _ => Ex.below) hH ?_ ?_
     · intro i hi v W h; simp only [List.mem_cons, List.not_mem_nil, or_false] at hi
       rcases hi with rfl
       all_goals exact phiB.old h
     · intro i hi f W hSw hbw hp; have kw := Kp1.mk hbw
       have kv := kpOf ew (W := W)
       have kz : Kz w0 W := ⟨kv.out.size⟩
       have hSx := Ex1.mk hSw
       clear hH; simp only [List.map_cons, List.map_nil, List.mem_cons, List.not_mem_nil, or_false] at hi
       rcases hi with rfl | rfl | rfl | rfl | rfl | rfl | rfl | rfl
       · refine ⟨_, by simp; rfl, fun K' hK => ?_⟩
         clear hp; simp only [putAll, Act.put, List.setIfInBounds_toArray, List.set_cons_zero, List.set_cons_succ] at hK ⊢
         generalize f 2 = v2 at *
         generalize f 5 = v5 at *
         generalize f 6 = v6 at *
         generalize f 9 = v9 at *
         generalize f 12 = v12 at *
         generalize f 13 = v13 at *
         generalize f 14 = v14 at *
         generalize f 15 = v15 at *
         go_simp; (with_reducible refine Calls.cQ (refqC) ?_); intros
         refine hK.out _ _ _ rfl (inferInstance : Kp W _).out ?_ ?_
         · exact phiQ.fin rfl (by omega)
         · exact fun h => absurd h (by decide)
       · have h2 : phiQ (((ma : Int) : Rat)) k2x (f 2) W := hp 2 (by decide)
         refine ⟨_, by simp; rfl, fun K' hK => ?_⟩
         clear hp; simp only [putAll, Act.put, List.setIfInBounds_toArray, List.set_cons_zero, List.set_cons_succ] at hK ⊢
         generalize f 2 = v2 at *
         generalize f 5 = v5 at *
         generalize f 6 = v6 at *
         generalize f 9 = v9 at *
         generalize f 12 = v12 at *
         generalize f 13 = v13 at *
         generalize f 14 = v14 at *
         generalize f 15 = v15 at *
         obtain ⟨g2, a2, l2, c2, aa2, ll2, cc2, rfl, i2⟩ := h2; go_simp; (with_reducible refine Calls.cQ (refqC) ?_); intros
         refine hK.out _ _ _ rfl (inferInstance : Kp W _).out ?_ ?_
         · exact phiQ.fin rfl (by omega)
         · exact fun h => absurd h (by decide)
       · have h2 : phiQ (((ma : Int) : Rat)) k2x (f 2) W := hp 2 (by decide)
         have h5 : phiQ (((lc : Int) : Rat)) k1z (f 5) W := hp 5 (by decide)
         refine ⟨_, by simp; rfl, fun K' hK => ?_⟩
         clear hp; simp only [putAll, Act.put, List.setIfInBounds_toArray, List.set_cons_zero, List.set_cons_succ] at hK ⊢
         generalize f 2 = v2 at *
         generalize f 5 = v5 at *
         generalize f 6 = v6 at *
         generalize f 9 = v9 at *
         generalize f 12 = v12 at *
         generalize f 13 = v13 at *
         generalize f 14 = v14 at *
         generalize f 15 = v15 at *
         obtain ⟨g2, a2, l2, c2, aa2, ll2, cc2, rfl, i2⟩ := h2; obtain ⟨g5, a5, l5, c5, aa5, ll5, cc5, rfl, i5⟩ := h5; go_simp; (with_reducible refine Calls.cQ (numTimesC (by omega)) ?_); intros
         refine hK.out _ _ _ rfl (inferInstance : Kp W _).out ?_ ?_
         · exact phiQ.fin rfl (by omega)
         · exact fun h => absurd h (by decide)
       · have h6 : phiQ (((ma : Int) : Rat) * ((lc : Int) : Rat)) (k2x + k1z + 4) (f 6) W := hp 6 (by decide)
         refine ⟨_, by simp; rfl, fun K' hK => ?_⟩
         clear hp; simp only [putAll, Act.put, List.setIfInBounds_toArray, List.set_cons_zero, List.set_cons_succ] at hK ⊢
         generalize f 2 = v2 at *
         generalize f 5 = v5 at *
         generalize f 6 = v6 at *
         generalize f 9 = v9 at *
         generalize f 12 = v12 at *
         generalize f 13 = v13 at *
         generalize f 14 = v14 at *
         generalize f 15 = v15 at *
         obtain ⟨g6, a6, l6, c6, aa6, ll6, cc6, rfl, i6⟩ := h6; go_simp; (with_reducible refine Calls.cQ (refqC) ?_); intros
         refine hK.out _ _ _ rfl (inferInstance : Kp W _).out ?_ ?_
         · exact phiQ.fin rfl (by omega)
         · exact fun h => absurd h (by decide)
       · have h9 : phiQ (((la : Int) : Rat)) k1x (f 9) W := hp 9 (by decide)
         refine ⟨_, by simp; rfl, fun K' hK => ?_⟩
         clear hp; simp only [putAll, Act.put, List.setIfInBounds_toArray, List.set_cons_zero, List.set_cons_succ] at hK ⊢
         generalize f 2 = v2 at *
         generalize f 5 = v5 at *
         generalize f 6 = v6 at *
         generalize f 9 = v9 at *
         generalize f 12 = v12 at *
         generalize f 13 = v13 at *
         generalize f 14 = v14 at *
         generalize f 15 = v15 at *
         obtain ⟨g9, a9, l9, c9, aa9, ll9, cc9, rfl, i9⟩ := h9; go_simp; (with_reducible refine Calls.cQ (refqC) ?_); intros
         refine hK.out _ _ _ rfl (inferInstance : Kp W _).out ?_ ?_
         · exact phiQ.fin rfl (by omega)
         · exact fun h => absurd h (by decide)
       · have h9 : phiQ (((la : Int) : Rat)) k1x (f 9) W := hp 9 (by decide)
         have h12 : phiQ (((mc : Int) : Rat)) k2z (f 12) W := hp 12 (by decide)
         refine ⟨_, by simp; rfl, fun K' hK => ?_⟩
         clear hp; simp only [putAll, Act.put, List.setIfInBounds_toArray, List.set_cons_zero, List.set_cons_succ] at hK ⊢
         generalize f 2 = v2 at *
         generalize f 5 = v5 at *
         generalize f 6 = v6 at *
         generalize f 9 = v9 at *
         generalize f 12 = v12 at *
         generalize f 13 = v13 at *
         generalize f 14 = v14 at *
         generalize f 15 = v15 at *
         obtain ⟨g9, a9, l9, c9, aa9, ll9, cc9, rfl, i9⟩ := h9; obtain ⟨g12, a12, l12, c12, aa12, ll12, cc12, rfl, i12⟩ := h12; go_simp; (with_reducible refine Calls.cQ (numTimesC (by omega)) ?_); intros
         refine hK.out _ _ _ rfl (inferInstance : Kp W _).out ?_ ?_
         · exact phiQ.fin rfl (by omega)
         · exact fun h => absurd h (by decide)
       · have h6 : phiQ (((ma : Int) : Rat) * ((lc : Int) : Rat)) (k2x + k1z + 4) (f 6) W := hp 6 (by decide)
         have h13 : phiQ (((la : Int) : Rat) * ((mc : Int) : Rat)) (k1x + k2z + 4) (f 13) W := hp 13 (by decide)
         refine ⟨_, by simp; rfl, fun K' hK => ?_⟩
         clear hp; simp only [putAll, Act.put, List.setIfInBounds_toArray, List.set_cons_zero, List.set_cons_succ] at hK ⊢
         generalize f 2 = v2 at *
         generalize f 5 = v5 at *
         generalize f 6 = v6 at *
         generalize f 9 = v9 at *
         generalize f 12 = v12 at *
         generalize f 13 = v13 at *
         generalize f 14 = v14 at *
         generalize f 15 = v15 at *
         obtain ⟨g6, a6, l6, c6, aa6, ll6, cc6, rfl, i6⟩ := h6; obtain ⟨g13, a13, l13, c13, aa13, ll13, cc13, rfl, i13⟩ := h13; go_simp; (with_reducible refine Calls.cQ (numSubC (by omega)) ?_); intros
         refine hK.out _ _ _ rfl (inferInstance : Kp W _).out ?_ ?_
         · exact phiQ.fin rfl (by omega)
         · exact fun h => absurd h (by decide)
       · refine ⟨_, by simp; rfl, fun K' hK => ?_⟩
         clear hp; simp only [putAll, Act.put, List.setIfInBounds_toArray, List.set_cons_zero, List.set_cons_succ] at hK ⊢
         generalize f 2 = v2 at *
         generalize f 5 = v5 at *
         generalize f 6 = v6 at *
         generalize f 9 = v9 at *
         generalize f 12 = v12 at *
         generalize f 13 = v13 at *
         generalize f 14 = v14 at *
         generalize f 15 = v15 at *
         go_simp
         refine hK.out _ _ _ rfl (inferInstance : Kp W _).out ?_ ?_
         · exact phiB.fin
         · exact fun _ => ⟨_, rfl, Nat.le_refl _⟩
     · intro f W hSw hbw hf hne; have kw := Kp1.mk hbw
       have hSx := Ex1.mk hSw
       clear hH
       have kv := kpOf ew (W := W)
       have kz : Kz w0 W := ⟨kv.out.size⟩
       have h2 : phiQ (((ma : Int) : Rat)) k2x (f 2) W := hf 2 (by decide)
       have h5 : phiQ (((lc : Int) : Rat)) k1z (f 5) W := hf 5 (by decide)
       have h6 : phiQ (((ma : Int) : Rat) * ((lc : Int) : Rat)) (k2x + k1z + 4) (f 6) W := hf 6 (by decide)
       have h9 : phiQ (((la : Int) : Rat)) k1x (f 9) W := hf 9 (by decide)
       have h12 : phiQ (((mc : Int) : Rat)) k2z (f 12) W := hf 12 (by decide)
       have h13 : phiQ (((la : Int) : Rat) * ((mc : Int) : Rat)) (k1x + k2z + 4) (f 13) W := hf 13 (by decide)
       have h14 : phiQ (((ma : Int) : Rat) * ((lc : Int) : Rat) - ((la : Int) : Rat) * ((mc : Int) : Rat)) (k1x + k1y + k1z + k2x + k2y + k2z + 20) (f 14) W := hf 14 (by decide)
       have h15 : phiB w0 45 [.bool false, .slice none 0 0, .slice none 0 0] (f 15) W := hf 15 (by decide)
       clear hf hne; simp only [putAll, lset, List.map_cons, List.map_nil, Act.put, List.setIfInBounds_toArray, List.set_cons_zero, List.set_cons_succ]
       generalize f 2 = v2 at *
       generalize f 5 = v5 at *
       generalize f 6 = v6 at *
       generalize f 9 = v9 at *
       generalize f 12 = v12 at *
       generalize f 13 = v13 at *
       generalize f 14 = v14 at *
       generalize f 15 = v15 at *
       obtain ⟨g2, a2, l2, c2, aa2, ll2, cc2, rfl, i2⟩ := h2; obtain ⟨g5, a5, l5, c5, aa5, ll5, cc5, rfl, i5⟩ := h5; obtain ⟨g6, a6, l6, c6, aa6, ll6, cc6, rfl, i6⟩ := h6; obtain ⟨g9, a9, l9, c9, aa9, ll9, cc9, rfl, i9⟩ := h9; obtain ⟨g12, a12, l12, c12, aa12, ll12, cc12, rfl, i12⟩ := h12; obtain ⟨g13, a13, l13, c13, aa13, ll13, cc13, rfl, i13⟩ := h13; obtain ⟨g14, a14, l14, c14, aa14, ll14, cc14, rfl, i14⟩ := h14; obtain ⟨b15, rfl, i15, j15, k15⟩ := h15
       have nw15 := nwOf ew j15
       have gg15 := ggOf ew k15
       have gl15 : Ge w b15 := ⟨by have h2 := j15.out; rw [ew.out] at h2; exact Nat.le_trans (inferInstance : Kp w _).out.size h2⟩
       have ge15 := geOf ew j15
       have hH := hSw
       refine st 16 fun K hK => ?_; go_simp; refine hd hK ?_; clear hH hK K; intro hH; refine dn ?_; clear hH; go_wp2_with fail; go_meet; exact ⟨_, _, _, _, _, _, _, _, rfl, inferInstance, inferInstance, inferInstance⟩
    case rest =>
     obtain ⟨b8, g8, a8, l8, c8, aa8, ll8, cc8, rfl, l1, l2, ⟨l3⟩⟩ := hcut; have l4 := Kp1.mk l3
     have l5 : Kp w wc := inferInstance
     go_wp2_with fail; refine rgn [] [7, 8] fun hH => ?_; refine tk 0 hH ?_; refine tk 1 hH ?_; refine tk 3 hH ?_; refine tk 4 hH ?_; refine st 2 fun K hK => ?_; go_simp; (with_reducible refine Calls.cQ (numOverC (by omega) HN.out) ?_); intros; refine hd hK ?_; clear hH hK K; intro hH; refine st 5 fun K hK => ?_; go_simp; (with_reducible refine Calls.cQ (numOverC (by omega) HN.out) ?_); intros; refine hd hK ?_; clear hH hK K; intro hH; refine tk 6 hH ?_; refine st 7 fun K hK => ?_; go_simp; refine hdT hK ?_; clear hK K; refine tk0 8 ?_; refine dn ?_; clear hH; go_wp2_with fail
     refine ret_bt rfl Tryz.underlying47 rfl (by kernel_rfl) rfl rfl rfl ?_
     exact PQBRet.fin rfl (by omega) rfl (by omega)
theorem refMeetNo {w : World} {g1x g1y g1z g2x g2y g2z : Bool} {a1x a1y a1z a2x a2y a2z : Option Addr} {l1x c1x l1y c1y l1z c1z l2x c2x l2y c2y l2z c2z k1x k1y k1z k2x k2y k2z : Nat} {la lb lc ma mb mc : Int} [h1x : CZ w (.agg #[.bool g1x, .slice a1x l1x c1x]) la k1x] [h1y : CZ w (.agg #[.bool g1y, .slice a1y l1y c1y]) lb k1y] [h1z : CZ w (.agg #[.bool g1z, .slice a1z l1z c1z]) lc k1z] [h2x : CZ w (.agg #[.bool g2x, .slice a2x l2x c2x]) ma k2x] [h2y : CZ w (.agg #[.bool g2y, .slice a2y l2y c2y]) mb k2y] [h2z : CZ w (.agg #[.bool g2z, .slice a2z l2z c2z]) mc k2z] (b : k1x ≤ 3000 ∧ k1y ≤ 3000 ∧ k1z ≤ 3000 ∧ k2x ≤ 3000 ∧ k2y ≤ 3000 ∧ k2z ≤ 3000) (HZ : Hid (decide (((la : Int) : Rat) * ((mb : Int) : Rat) - ((lb : Int) : Rat) * ((ma : Int) : Rat) = 0) = true)) :
    Calls Tryz.prog 175 #[.agg #[.bool g1x, .slice a1x l1x c1x, .bool g1y, .slice a1y l1y c1y, .bool g1z, .slice a1z l1z c1z], .agg #[.bool g2x, .slice a2x l2x c2x, .bool g2y, .slice a2y l2y c2y, .bool g2z, .slice a2z l2z c2z]] w (PQBRet w 0 0 false (3 * (k1x + k1y + k1z + k2x + k2y + k2z) + 100)) := by
  have HS : Hid (isgn (((la : Int) : Rat) * ((mb : Int) : Rat) - ((ma : Int) : Rat) * ((lb : Int) : Rat)).num = 0) := by
    have h := of_decide_eq_true HZ.out
    refine Lib.hid (isg_zero.2 ?_)
    rw [Rat.mul_comm ((ma : Int) : Rat)]; exact h
  go_enter Tryz.func175, Tryz.ntmps175
  go_upto_region 1 with fail
  go_cut [6] from 9 to 23 (fun t wx => ∃ (b6 : Nat) (g6 : Bool) (a6 : Option Addr) (l6 c6 : Nat) (aa6 : Option Addr) (ll6 cc6 : Nat), t = .pointer (some ⟨b6, 0, none⟩) ∧ Bx wx b6 45 [.bool g6, .slice a6 l6 c6, .slice aa6 ll6 cc6] ∧ CQ wx (.agg #[.bool g6, .slice a6 l6 c6, .slice aa6 ll6 cc6]) (((la : Int) : Rat) * ((mb : Int) : Rat) - ((ma : Int) : Rat) * ((lb : Int) : Rat)) (k1x + k1y + k1z + k2x + k2y + k2z + 20) ∧ Kp (((w.alloc (.cells #[.bool g1x, .slice a1x l1x c1x, .bool g1y, .slice a1y l1y c1y, .bool g1z, .slice a1z l1z c1z] 163)).alloc (.cells #[.bool g2x, .slice a2x l2x c2x, .bool g2y, .slice a2y l2y c2y, .bool g2z, .slice a2z l2z c2z] 163)).alloc (.cells #[.bool false, .slice none 0 0, .slice none 0 0, .bool false, .slice none 0 0, .slice none 0 0] 47)) wx)
  case first =>
    refine rgnW [] [] fun w0 ew hH => ?_
    refine tk 0 hH ?_; refine tk 1 hH ?_; refine tk 3 hH ?_; refine tk 4 hH ?_; refine tk 7 hH ?_; refine tk 8 hH ?_; refine tk 10 hH ?_; refine tk 11 hH ?_
    refine wpAnyT_inv [(2, 11), (5, 14), (6, 15), (9, 18), (12, 21), (13, 22), (14, 23), (15, 6)] (fun i => match i with | 2 => [] | 5 => [2] | 6 => [2, 5] | 9 => [6] | 12 => [9] | 13 => [9, 12] | 14 => [6, 13] | 15 => [] | _ => []) [phiQ (((la : Int) : Rat)) k1x, phiQ (((mb : Int) : Rat)) k2y, phiQ (((la : Int) : Rat) * ((mb : Int) : Rat)) (k1x + k2y + 4), phiQ (((ma : Int) : Rat)) k2x, phiQ (((lb : Int) : Rat)) k1y, phiQ (((ma : Int) : Rat) * ((lb : Int) : Rat)) (k2x + k1y + 4), phiQ (((la : Int) : Rat) * ((mb : Int) : Rat) - ((ma : Int) : Rat) * ((lb : Int) : Rat)) (k1x + k1y + k1z + k2x + k2y + k2z + 20), phiB w0 45 [.bool false, .slice none 0 0, .slice none 0 0]] [15] 1 (by rfl) (by decide +kernel) (by decide) (by decide) (by kernel_rfl) ?_ (fun _ _ => Ex.below) hH ?_ ?_
    · intro i hi v W h; simp only [List.mem_cons, List.not_mem_nil, or_false] at hi
      rcases hi with rfl
      all_goals exact phiB.old h
    · intro i hi f W hSw hbw hp; have kw := Kp1.mk hbw
      have kv := kpOf ew (W := W)
      have kz : Kz w0 W := ⟨kv.out.size⟩
      have hSx := Ex1.mk hSw
      clear hH; simp only [List.map_cons, List.map_nil, List.mem_cons, List.not_mem_nil, or_false] at hi
      rcases hi with rfl | rfl | rfl | rfl | rfl | rfl | rfl | rfl
      · refine ⟨_, by simp; rfl, fun K' hK => ?_⟩
        clear hp; simp only [putAll, Act.put, List.setIfInBounds_toArray, List.set_cons_zero, List.set_cons_succ] at hK ⊢
        generalize f 2 = v2 at *
        generalize f 5 = v5 at *
        generalize f 6 = v6 at *
        generalize f 9 = v9 at *
        generalize f 12 = v12 at *
        generalize f 13 = v13 at *
        generalize f 14 = v14 at *
        generalize f 15 = v15 at *
        go_simp; (with_reducible refine Calls.cQ (refqC) ?_); intros
        refine hK.out _ _ _ rfl (inferInstance : Kp W _).out ?_ ?_
        · exact phiQ.fin rfl (by omega)
        · exact fun h => absurd h (by decide)
      · have h2 : phiQ (((la : Int) : Rat)) k1x (f 2) W := hp 2 (by decide)
        refine ⟨_, by simp; rfl, fun K' hK => ?_⟩
        clear hp; simp only [putAll, Act.put, List.setIfInBounds_toArray, List.set_cons_zero, List.set_cons_succ] at hK ⊢
        generalize f 2 = v2 at *
        generalize f 5 = v5 at *
        generalize f 6 = v6 at *
        generalize f 9 = v9 at *
        generalize f 12 = v12 at *
        generalize f 13 = v13 at *
        generalize f 14 = v14 at *
        generalize f 15 = v15 at *
        obtain ⟨g2, a2, l2, c2, aa2, ll2, cc2, rfl, i2⟩ := h2; go_simp; (with_reducible refine Calls.cQ (refqC) ?_); intros
        refine hK.out _ _ _ rfl (inferInstance : Kp W _).out ?_ ?_
        · exact phiQ.fin rfl (by omega)
        · exact fun h => absurd h (by decide)
      · have h2 : phiQ (((la : Int) : Rat)) k1x (f 2) W := hp 2 (by decide)
        have h5 : phiQ (((mb : Int) : Rat)) k2y (f 5) W := hp 5 (by decide)
        refine ⟨_, by simp; rfl, fun K' hK => ?_⟩
        clear hp; simp only [putAll, Act.put, List.setIfInBounds_toArray, List.set_cons_zero, List.set_cons_succ] at hK ⊢
        generalize f 2 = v2 at *
        generalize f 5 = v5 at *
        generalize f 6 = v6 at *
        generalize f 9 = v9 at *
        generalize f 12 = v12 at *
        generalize f 13 = v13 at *
        generalize f 14 = v14 at *
        generalize f 15 = v15 at *
        obtain ⟨g2, a2, l2, c2, aa2, ll2, cc2, rfl, i2⟩ := h2; obtain ⟨g5, a5, l5, c5, aa5, ll5, cc5, rfl, i5⟩ := h5; go_simp; (with_reducible refine Calls.cQ (numTimesC (by omega)) ?_); intros
        refine hK.out _ _ _ rfl (inferInstance : Kp W _).out ?_ ?_
        · exact phiQ.fin rfl (by omega)
        · exact fun h => absurd h (by decide)
      · have h6 : phiQ (((la : Int) : Rat) * ((mb : Int) : Rat)) (k1x + k2y + 4) (f 6) W := hp 6 (by decide)
        refine ⟨_, by simp; rfl, fun K' hK => ?_⟩
        clear hp; simp only [putAll, Act.put, List.setIfInBounds_toArray, List.set_cons_zero, List.set_cons_succ] at hK ⊢
        generalize f 2 = v2 at *
        generalize f 5 = v5 at *
        generalize f 6 = v6 at *
        generalize f 9 = v9 at *
        generalize f 12 = v12 at *
        generalize f 13 = v13 at *
        generalize f 14 = v14 at *
        generalize f 15 = v15 at *
        obtain ⟨g6, a6, l6, c6, aa6, ll6, cc6, rfl, i6⟩ := h6; go_simp; (with_reducible refine Calls.cQ (refqC) ?_); intros
        refine hK.out _ _ _ rfl (inferInstance : Kp W _).out ?_ ?_
        · exact phiQ.fin rfl (by omega)
        · exact fun h => absurd h (by decide)
      · have h9 : phiQ (((ma : Int) : Rat)) k2x (f 9) W := hp 9 (by decide)
        refine ⟨_, by simp; rfl, fun K' hK => ?_⟩
        clear hp; simp only [putAll, Act.put, List.setIfInBounds_toArray, List.set_cons_zero, List.set_cons_succ] at hK ⊢
        generalize f 2 = v2 at *
        generalize f 5 = v5 at *
        generalize f 6 = v6 at *
        generalize f 9 = v9 at *
        generalize f 12 = v12 at *
        generalize f 13 = v13 at *
        generalize f 14 = v14 at *
        generalize f 15 = v15 at *
        obtain ⟨g9, a9, l9, c9, aa9, ll9, cc9, rfl, i9⟩ := h9; go_simp; (with_reducible refine Calls.cQ (refqC) ?_); intros
        refine hK.out _ _ _ rfl (inferInstance : Kp W _).out ?_ ?_
        · exact phiQ.fin rfl (by omega)
        · exact fun h => absurd h (by decide)
      · have h9 : phiQ (((ma : Int) : Rat)) k2x (f 9) W := hp 9 (by decide)
        have h12 : phiQ (((lb : Int) : Rat)) k1y (f 12) W := hp 12 (by decide)
        refine ⟨_, by simp; rfl, fun K' hK => ?_⟩
        clear hp; simp only [putAll, Act.put, List.setIfInBounds_toArray, List.set_cons_zero, List.set_cons_succ] at hK ⊢
        generalize f 2 = v2 at *
        generalize f 5 = v5 at *
        generalize f 6 = v6 at *
        generalize f 9 = v9 at *
        generalize f 12 = v12 at *
        generalize f 13 = v13 at *
        generalize f 14 = v14 at *
        generalize f 15 = v15 at *
        obtain ⟨g9, a9, l9, c9, aa9, ll9, cc9, rfl, i9⟩ := h9; obtain ⟨g12, a12, l12, c12, aa12, ll12, cc12, rfl, i12⟩ := h12; go_simp; (with_reducible refine Calls.cQ (numTimesC (by omega)) ?_); intros
        refine hK.out _ _ _ rfl (inferInstance : Kp W _).out ?_ ?_
        · exact phiQ.fin rfl (by omega)
        · exact fun h => absurd h (by decide)
      · have h6 : phiQ (((la : Int) : Rat) * ((mb : Int) : Rat)) (k1x + k2y + 4) (f 6) W := hp 6 (by decide)
        have h13 : phiQ (((ma : Int) : Rat) * ((lb : Int) : Rat)) (k2x + k1y + 4) (f 13) W := hp 13 (by decide)
        refine ⟨_, by simp; rfl, fun K' hK => ?_⟩
        clear hp; simp only [putAll, Act.put, List.setIfInBounds_toArray, List.set_cons_zero, List.set_cons_succ] at hK ⊢
        generalize f 2 = v2 at *
        generalize f 5 = v5 at *
        generalize f 6 = v6 at *
        generalize f 9 = v9 at *
        generalize f 12 = v12 at *
        generalize f 13 = v13 at *
        generalize f 14 = v14 at *
        generalize f 15 = v15 at *
        obtain ⟨g6, a6, l6, c6, aa6, ll6, cc6, rfl, i6⟩ := h6; obtain ⟨g13, a13, l13, c13, aa13, ll13, cc13, rfl, i13⟩ := h13; go_simp; (with_reducible refine Calls.cQ (numSubC (by omega)) ?_); intros
        refine hK.out _ _ _ rfl (inferInstance : Kp W _).out ?_ ?_
        · exact phiQ.fin rfl (by omega)
        · exact fun h => absurd h (by decide)
      · refine ⟨_, by simp; rfl, fun K' hK => ?_⟩
        clear hp; simp only [putAll, Act.put, List.setIfInBounds_toArray, List.set_cons_zero, List.set_cons_succ] at hK ⊢
        generalize f 2 = v2 at *
        generalize f 5 = v5 at *
        generalize f 6 = v6 at *
        generalize f 9 = v9 at *
        generalize f 12 = v12 at *
        generalize f 13 = v13 at *
        generalize f 14 = v14 at *
        generalize f 15 = v15 at *
        go_simp
        refine hK.out _ _ _ rfl (inferInstance : Kp W _).out ?_ ?_
        · exact phiB.fin
        · exact fun _ => ⟨_, rfl, Nat.le_refl _⟩
    · intro f W hSw hbw hf hne; have kw := Kp1.mk hbw
      have hSx := Ex1.mk hSw
      clear hH
      have kv := kpOf ew (W := W)
      have kz : Kz w0 W := ⟨kv.out.size⟩
      have h2 : phiQ (((la : Int) : Rat)) k1x (f 2) W := hf 2 (by decide)
      have h5 : phiQ (((mb : Int) : Rat)) k2y (f 5) W := hf 5 (by decide)
      have h6 : phiQ (((la : Int) : Rat) * ((mb : Int) : Rat)) (k1x + k2y + 4) (f 6) W := hf 6 (by decide)
      have h9 : phiQ (((ma : Int) : Rat)) k2x (f 9) W := hf 9 (by decide)
      have h12 : phiQ (((lb : Int) : Rat)) k1y (f 12) W := hf 12 (by decide)
      have h13 : phiQ (((ma : Int) : Rat) * ((lb : Int) : Rat)) (k2x + k1y + 4) (f 13) W := hf 13 (by decide)
      have h14 : phiQ (((la : Int) : Rat) * ((mb : Int) : Rat) - ((ma : Int) : Rat) * ((lb : Int) : Rat)) (k1x + k1y + k1z + k2x + k2y + k2z + 20) (f 14) W := hf 14 (by decide)
      have h15 : phiB w0 45 [.bool false, .slice none 0 0, .slice none 0 0] (f 15) W := hf 15 (by decide)
      clear hf hne; simp only [putAll, lset, List.map_cons, List.map_nil, Act.put, List.setIfInBounds_toArray, List.set_cons_zero, List.set_cons_succ]
      generalize f 2 = v2 at *
      generalize f 5 = v5 at *
      generalize f 6 = v6 at *
      generalize f 9 = v9 at *
      generalize f 12 = v12 at *
      generalize f 13 = v13 at *
      generalize f 14 = v14 at *
      generalize f 15 = v15 at *
      obtain ⟨g2, a2, l2, c2, aa2, ll2, cc2, rfl, i2⟩ := h2; obtain ⟨g5, a5, l5, c5, aa5, ll5, cc5, rfl, i5⟩ := h5; obtain ⟨g6, a6, l6, c6, aa6, ll6, cc6, rfl, i6⟩ := h6; obtain ⟨g9, a9, l9, c9, aa9, ll9, cc9, rfl, i9⟩ := h9; obtain ⟨g12, a12, l12, c12, aa12, ll12, cc12, rfl, i12⟩ := h12; obtain ⟨g13, a13, l13, c13, aa13, ll13, cc13, rfl, i13⟩ := h13; obtain ⟨g14, a14, l14, c14, aa14, ll14, cc14, rfl, i14⟩ := h14; obtain ⟨b15, rfl, i15, j15, k15⟩ := h15
      have nw15 := nwOf ew j15
      have gg15 := ggOf ew k15
      have gl15 : Ge w b15 := ⟨by have h2 := j15.out; rw [ew.out] at h2; exact Nat.le_trans (inferInstance : Kp w _).out.size h2⟩
      have ge15 := geOf ew j15
      have hH := hSw
      refine st 16 fun K hK => ?_; go_simp; refine hd hK ?_; clear hH hK K; intro hH; refine dn ?_; clear hH; go_wp2_with fail; go_meet; exact ⟨_, _, _, _, _, _, _, _, rfl, inferInstance, inferInstance, inferInstance⟩
  case rest =>
   obtain ⟨b6, g6, a6, l6, c6, aa6, ll6, cc6, rfl, i1, i2, ⟨i3⟩⟩ := hcut; have i4 := Kp1.mk i3
   have i5 : Kp w wc := inferInstance
   go_wp2_with (first | (go_at_call 54; (with_reducible refine Calls.cE (numSV HS) ?_); intros))
   refine ret_bt rfl Tryz.underlying47 rfl (by kernel_rfl) rfl rfl rfl ?_
   exact PQBRet.fin rfl (by omega) rfl (by omega)
end
end Go.Proofs.YtdlnoeegboapkaaGreatDoor
