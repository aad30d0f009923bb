/-
  Texts of this claim, joined: Rc5, Rc6.
-/
import Derived.Test.YtdlnoeegboapkaaGreatDoorHKB
import Derived.Test.YtdlnoeegboapkaaGreatDoorHKE
import Derived.Test.YtdlnoeegboapkaaGreatDoorCP
/- bspregionref04.Pts and bspregionref09.Check at a ring that came in. printed by a small program (mkrc5.py). -/
namespace Go.Proofs.YtdlnoeegboapkaaGreatDoor
open Go.RowKit
set_option maxRecDepth 100000
set_option maxHeartbeats 40000000
set_option synthInstance.maxSize 100000
set_option synthInstance.maxHeartbeats 1000000
set_option linter.unusedVariables false

theorem refPtsO {w w0 : World} {a : Option Addr} {n c : Nat} {V : List AV} {L : List (Rat × Rat)} {k : Nat} [hs : SlO w (.slice a n c) V.length (rowA V) w0] [hp : PsA w V L k] (b : k ≤ 80000) (hV : V.length ≤ 900000) :
    Calls Tryz.prog 52 #[.slice a n c] w (PsQRet w L (k + 2)) := by
  obtain rfl := hs.len
  have hlen := Lib.hid hp.len
  go_enter Tryz.func52, Tryz.ntmps52
  go_wp2_with fail
  go_loopw [8, 3] (fun i o wr => ∃ (q : Nat) (U : List AV), i = .int .i64 (q : Int) ∧ q ≤ V.length ∧ Rn wr o 47 6 U.length (rowA U) w.heap.size wr ∧ Hid (U.length = q) ∧ PsQ wr U (L.take q) (k + 2) ∧ Kp w wr) (fun i _ _ => V.length - (intOf i).toNat)
  case atStart => exact ⟨0, [], rfl, by omega, Rn.nil (Nat.le_refl _), Lib.hid rfl, PsQ.nil, inferInstance⟩
  case round =>
    obtain ⟨q, U, rfl, hq, i1, hU, i2, i3⟩ := hrel
    have kw := Kp1.mk i3.out
    by_cases hlt : q < V.length
    · obtain ⟨g, off, rfl, hA⟩ := hs.form (by omega)
      have hlt' : (q : Int) < V.length := by omega
      have lq : LtN q V.length := ⟨hlt⟩
      have ew : IntKind.i64.wrap ((q : Int) + 1) = (q : Int) + 1 := wr_in (by omega) (by omega)
      go_wp2_with (first
        | (go_at_call 16; (with_reducible refine Calls.cPQ (refPtC (by omega)) ?_); intro w1 _ gx ax lx cx aax llx ccx gy ay ly cy aay lly ccy i7 i8)
        | (at_builtin; go_loud (refine app_rn1 (v := u3) rfl (.tmp 12) (.tmp 15) 61 rfl Tryz.underlying61 info_q rfl (by decide) (by decide) (by decide) inferInstance rfl (rowA_nd _) rfl (by rfl) ?h1 ?h2 (by first | omega | (have := hU.out; omega)) ?_); (case h1 => exact AV.one ⟨_, _, _, _, _, _, _, _, _, _, _, _, _, _⟩); (case h2 => exact AV.nd ⟨_, _, _, _, _, _, _, _, _, _, _, _, _, _⟩); intro g2 c2 w2 i9 i10 i11))
      go_roundw
      case rel => exact ⟨q + 1, U ++ [⟨gx, ax, lx, cx, aax, llx, ccx, gy, ay, ly, cy, aay, lly, ccy⟩], by go_num, by omega, Rn.cast2 (inferInstance) (by simp) (by rw [rowA_snoc]; rfl), Lib.hid (by rw [List.length_append, hU.out]; rfl), by rw [take_pg (by have := hlen.out; omega)]; exact PsQ.add (by omega) (by omega), inferInstance⟩
      case measure => simp [intOf]; omega
    · obtain rfl : q = V.length := by omega
      rw [List.take_of_length_le (by have := hlen.out; omega)] at i2
      obtain ⟨a3, c3, rfl⟩ := i1.slice
      go_wp2_with fail
      go_ret
      exact PsQRet.fin (V := U) rfl (by omega)
theorem refCheckBad {w w0 : World} {a : Option Addr} {n c : Nat} {V : List AV} {D : Nat → RD} [hs : SlO w (.slice a n c) V.length (rowA V) w0] [hp : PsL w V D] (hV : V.length ≤ 10) (hS : ∀ i, i < V.length → smlP D 4 i) {i0 : Nat} (h0 : i0 < V.length) (hN : ∀ i, i < i0 → nrmP V D i = true) (hB : nrmP V D i0 = false) :
    Calls Tryz.prog 51 #[.slice a n c] w (fun e w' => e = .returned (.int .i64 2) ∧ Below w.heap.size w w') := by
  obtain rfl := hs.len
  obtain ⟨g, off, rfl, hA⟩ := hs.form (by omega)
  have HN := Lib.hid hN
  have HS := Lib.hid hS
  have HB : Hid ((nrmQ (av V i0).gx (D i0).x (D i0).xx && nrmQ (av V i0).gy (D i0).y (D i0).yy) = false) := Lib.hid hB
  have hno : ¬ (4096 < (V.length : Int)) := by omega
  clear hs hN hS hB
  go_enter Tryz.func51, Tryz.ntmps51
  go_wp2_with fail
  go_loopw [12] (fun i wr => ∃ q : Nat, i = .int .i64 (q : Int) ∧ q ≤ i0 ∧ Kp w wr) (fun i _ => V.length - (intOf i).toNat)
  case atStart => exact ⟨0, rfl, by omega, inferInstance⟩
  case round =>
    obtain ⟨q, rfl, hq, i2⟩ := hrel
    have kw := Kp1.mk i2.out
    by_cases hlt0 : q < i0
    · have hlt : q < V.length := by omega
      have hlt' : (q : Int) < V.length := by omega
      have lq : LtN q V.length := ⟨hlt⟩
      have ew : IntKind.i64.wrap ((q : Int) + 1) = (q : Int) + 1 := wr_in (by omega) (by omega)
      obtain ⟨s1, s2, s3, s4⟩ := HS.out q hlt
      have hn := HN.out q hlt0
      have HV : Hid ((nrmQ (av V q).gx (D q).x (D q).xx && nrmQ (av V q).gy (D q).y (D q).yy) = true) := Lib.hid hn
      clear hn
      go_wp2_with (first
        | (go_at_call 115; (with_reducible refine Calls.cE (refNormalL (by omega) HV) ?_); intros))
      go_roundw
      case rel => exact ⟨q + 1, by go_num, by omega, inferInstance⟩
      case measure => simp [intOf]; omega
    · obtain rfl : q = i0 := by omega
      have hlt : q < V.length := h0
      have hlt' : (q : Int) < V.length := by omega
      have lq : LtN q V.length := ⟨hlt⟩
      obtain ⟨s1, s2, s3, s4⟩ := HS.out q hlt
      go_wp2_with (first
        | (go_at_call 115; (with_reducible refine Calls.cE (refNormalL (by omega) HB) ?_); intros))
      go_ret
      exact ⟨rfl, (inferInstance : Kp w _).out⟩
end Go.Proofs.YtdlnoeegboapkaaGreatDoor

/- bspregionref09.Check at a ring of normal points that came in. printed by a small program (mkrc6.py). -/
namespace Go.Proofs.YtdlnoeegboapkaaGreatDoor
open Go.RowKit
set_option maxRecDepth 100000
set_option maxHeartbeats 40000000
set_option synthInstance.maxSize 100000
set_option synthInstance.maxHeartbeats 1000000
set_option linter.unusedVariables false

/-- The points of a ring that came in. -/
def ringP (V : List AV) (D : Nat → RD) : List (Rat × Rat) := (List.range V.length).map (ratP V D)
theorem ringP_len (V : List AV) (D : Nat → RD) : (ringP V D).length = V.length := by simp [ringP]
theorem refCheckFew {w w0 : World} {a : Option Addr} {n c : Nat} {V : List AV} {D : Nat → RD} [hs : SlO w (.slice a n c) V.length (rowA V) w0] [hp : PsL w V D] (hV : V.length ≤ 10) (hS : ∀ i, i < V.length → smlP D 4 i) (hN : ∀ i, i < V.length → nrmP V D i = true) (HD0 : dsc (ringP V D) (ringP V D).length < 3) :
    Calls Tryz.prog 51 #[.slice a n c] w (fun e w' => e = .returned (.int .i64 3) ∧ Below w.heap.size w w') := by
  obtain rfl := hs.len
  have HN := Lib.hid hN
  have HS := Lib.hid hS
  have hno : ¬ (4096 < (V.length : Int)) := by omega
  clear hN hS
  go_enter Tryz.func51, Tryz.ntmps51
  go_wp2_with fail
  go_loopw [12] (fun i wr => ∃ q : Nat, i = .int .i64 (q : Int) ∧ q ≤ V.length ∧ Kp w wr) (fun i _ => V.length - (intOf i).toNat)
  case atStart => exact ⟨0, rfl, by omega, inferInstance⟩
  case round =>
    obtain ⟨q, rfl, hq, i2⟩ := hrel
    have kw := Kp1.mk i2.out
    by_cases hlt0 : q < V.length
    · have hlt : q < V.length := by omega
      obtain ⟨g, off, rfl, hA⟩ := hs.form (by omega)
      have hlt' : (q : Int) < V.length := by omega
      have lq : LtN q V.length := ⟨hlt⟩
      have ew : IntKind.i64.wrap ((q : Int) + 1) = (q : Int) + 1 := wr_in (by omega) (by omega)
      obtain ⟨s1, s2, s3, s4⟩ := HS.out q hlt
      have hn := HN.out q hlt0
      have HV : Hid ((nrmQ (av V q).gx (D q).x (D q).xx && nrmQ (av V q).gy (D q).y (D q).yy) = true) := Lib.hid hn
      clear hn
      go_wp2_with (first
        | (go_at_call 115; (with_reducible refine Calls.cE (refNormalL (by omega) HV) ?_); intros))
      go_roundw
      case rel => exact ⟨q + 1, by go_num, by omega, inferInstance⟩
      case measure => simp [intOf]; omega
    · obtain rfl : q = V.length := by omega
      have pa : PsA wr V (ringP V D) 4 := PsA.ofL inferInstance HN.out HS.out
      obtain ⟨dd, hdd⟩ : ∃ dd, dsc (ringP V D) (ringP V D).length = dd := ⟨_, rfl⟩
      have HDD := Lib.hid hdd
      rw [hdd] at HD0
      clear hdd
      go_wp2_with fail
      with_reducible refine Calls.cPsQRet (refPtsO (V := V) (L := ringP V D) (k := 4) (by omega) (by omega)) ?_
      intro w1 _ qa qc Q _ qp
      have hQl : Hid (Q.length = (ringP V D).length) := Lib.hid qp.len
      have hQ10 : Q.length ≤ 10 := by rw [qp.len, ringP_len]; exact hV
      clear pa
      have h3 : (dd : Int) < 3 := by omega
      go_wp2_with (first
        | (go_at_call 84; (with_reducible refine Calls.cLen (sortedC (V := Q) (by omega) (by omega)) ?_); intro y9 _ a9 c9; rw [HDD.out]))
      go_ret
      exact ⟨rfl, (inferInstance : Kp w _).out⟩
theorem refCheckE {w w0 : World} {a : Option Addr} {n c : Nat} {V : List AV} {D : Nat → RD} [hs : SlO w (.slice a n c) V.length (rowA V) w0] [hp : PsL w V D] (hV : V.length ≤ 10) (hS : ∀ i, i < V.length → smlP D 4 i) (hN : ∀ i, i < V.length → nrmP V D i = true) (HD0 : 3 ≤ dsc (ringP V D) (ringP V D).length) {v : Int} (hv : ((∀ i, i < (ringP V D).length → pg (ringP V D) i ≠ pg (ringP V D) ((i + 1) % (ringP V D).length)) ∧ v = 0) ∨ ((∃ i, i < (ringP V D).length ∧ pg (ringP V D) i = pg (ringP V D) ((i + 1) % (ringP V D).length)) ∧ v = 3)) :
    Calls Tryz.prog 51 #[.slice a n c] w (fun e w' => e = .returned (.int .i64 v) ∧ Below w.heap.size w w') := by
  have HVV := Lib.hid hv
  clear hv
  obtain rfl := hs.len
  have HN := Lib.hid hN
  have HS := Lib.hid hS
  have hno : ¬ (4096 < (V.length : Int)) := by omega
  clear hN hS
  go_enter Tryz.func51, Tryz.ntmps51
  go_wp2_with fail
  go_loopw [12] (fun i wr => ∃ q : Nat, i = .int .i64 (q : Int) ∧ q ≤ V.length ∧ Kp w wr) (fun i _ => V.length - (intOf i).toNat)
  case atStart => exact ⟨0, rfl, by omega, inferInstance⟩
  case round =>
    obtain ⟨q, rfl, hq, i2⟩ := hrel
    have kw := Kp1.mk i2.out
    by_cases hlt0 : q < V.length
    · have hlt : q < V.length := by omega
      obtain ⟨g, off, rfl, hA⟩ := hs.form (by omega)
      have hlt' : (q : Int) < V.length := by omega
      have lq : LtN q V.length := ⟨hlt⟩
      have ew : IntKind.i64.wrap ((q : Int) + 1) = (q : Int) + 1 := wr_in (by omega) (by omega)
      obtain ⟨s1, s2, s3, s4⟩ := HS.out q hlt
      have hn := HN.out q hlt0
      have HV : Hid ((nrmQ (av V q).gx (D q).x (D q).xx && nrmQ (av V q).gy (D q).y (D q).yy) = true) := Lib.hid hn
      clear hn
      go_wp2_with (first
        | (go_at_call 115; (with_reducible refine Calls.cE (refNormalL (by omega) HV) ?_); intros))
      go_roundw
      case rel => exact ⟨q + 1, by go_num, by omega, inferInstance⟩
      case measure => simp [intOf]; omega
    · obtain rfl : q = V.length := by omega
      have pa : PsA wr V (ringP V D) 4 := PsA.ofL inferInstance HN.out HS.out
      obtain ⟨dd, hdd⟩ : ∃ dd, dsc (ringP V D) (ringP V D).length = dd := ⟨_, rfl⟩
      have HDD := Lib.hid hdd
      rw [hdd] at HD0
      clear hdd
      go_wp2_with fail
      with_reducible refine Calls.cPsQRet (refPtsO (V := V) (L := ringP V D) (k := 4) (by omega) (by omega)) ?_
      intro w1 _ qa qc Q _ qp
      have hQl : Hid (Q.length = (ringP V D).length) := Lib.hid qp.len
      have hQ10 : Q.length ≤ 10 := by rw [qp.len, ringP_len]; exact hV
      clear pa
      have h3 : ¬ ((dd : Int) < 3) := by omega
      have hQ0 : 0 < Q.length := by rw [qp.len]; have := dsc_le (ringP V D) (ringP V D).length; have := HDD.out; omega
      go_wp2_with (first
        | (go_at_call 84; (with_reducible refine Calls.cLen (sortedC (V := Q) (by omega) (by omega)) ?_); intro y9 _ a9 c9; rw [HDD.out]))
      have qs : Sl y9 (.slice qa Q.length qc) Q.length (rowA Q) w1 := inferInstance
      obtain ⟨gq, rfl, hQA⟩ := qs.form hQ0
      clear qs
      generalize ringP V D = L at *
      go_loopw [28] (fun i wx => ∃ q : Nat, i = .int .i64 (q : Int) ∧ q ≤ Q.length ∧ Hid (∀ i, i < q → pg L i ≠ pg L ((i + 1) % Q.length)) ∧ Kp y9 wx) (fun i _ => Q.length - (intOf i).toNat)
      case atStart => exact ⟨0, rfl, by omega, Lib.hid (fun i h => absurd h (by omega)), inferInstance⟩
      case round =>
        obtain ⟨r, rfl, hr, hR, j2⟩ := hrel
        have kx := Kp1.mk j2.out
        by_cases hlr : r < Q.length
        · have hlr' : (r : Int) < Q.length := by omega
          have lr : LtN r Q.length := ⟨hlr⟩
          have ewr : IntKind.i64.wrap ((r : Int) + 1) = (r : Int) + 1 := wr_in (by omega) (by omega)
          obtain ⟨m, hm0⟩ : ∃ m, (r + 1) % Q.length = m := ⟨_, rfl⟩
          have hm : m < Q.length := by rw [← hm0]; exact Nat.mod_lt _ (by omega)
          have lm : LtN m Q.length := ⟨hm⟩
          have hm' : (m : Int) < Q.length := by omega
          have er : ((r : Int) + 1).tmod (Q.length : Int) = (m : Int) := by
            rw [← hm0, show (r : Int) + 1 = ((r + 1 : Nat) : Int) by omega]; exact (Int.ofNat_tmod _ _).symm
          have hz : ¬ ((Q.length : Int) = 0) := by omega
          have hz2 : ¬ (Q.length = 0) := by omega
          by_cases hb : pg L r = pg L m
          · have HV : Hid ((decide ((pg L r).1 = (pg L m).1) && decide ((pg L r).2 = (pg L m).2)) = true) := Lib.hid (by rw [hb]; simp)
            have hv3 : v = 3 := by
              rcases HVV.out with ⟨h1, _⟩ | ⟨_, h2⟩
              · exact absurd hb (by have := h1 r (by rw [← hQl.out]; exact hlr); rw [← hQl.out, hm0] at this; exact this)
              · exact h2
            subst hv3
            clear hb hm0
            go_wp2_with fail
            refine rgn [] [] fun hHeld => ?_
            refine tk 0 hHeld ?_
            refine tk 1 hHeld ?_
            refine tk 2 hHeld ?_
            refine tk 3 hHeld ?_
            refine tk 4 hHeld ?_
            refine tk 5 hHeld ?_
            refine tk 6 hHeld ?_
            refine tk 7 hHeld ?_
            refine tk 8 hHeld ?_
            refine tk 9 hHeld ?_
            refine tk 10 hHeld ?_
            refine tk 11 hHeld ?_
            refine st 12 fun K hK => ?_
            go_simp
            (with_reducible refine Calls.cE (refSameV (by omega) HV) ?_); intros
            refine hd hK ?_
            clear hHeld hK K
            intro hHeld
            refine dn ?_
            clear hHeld
            go_wp2_with fail
            go_ret
            exact ⟨rfl, (inferInstance : Kp w _).out⟩
          · have HV : Hid ((decide ((pg L r).1 = (pg L m).1) && decide ((pg L r).2 = (pg L m).2)) = false) := Lib.hid (by
              rw [Bool.eq_false_iff]
              intro h
              simp only [Bool.and_eq_true, decide_eq_true_eq] at h
              exact hb (Prod.ext_iff.2 h))
            have HO : Hid (∀ i, i < r + 1 → pg L i ≠ pg L ((i + 1) % Q.length)) := Lib.hid (fun i hi => by
              by_cases e : i = r
              · subst e; rw [hm0]; exact hb
              · exact hR.out i (by omega))
            clear hb hm0
            go_wp2_with fail
            refine rgn [] [] fun hHeld => ?_
            refine tk 0 hHeld ?_
            refine tk 1 hHeld ?_
            refine tk 2 hHeld ?_
            refine tk 3 hHeld ?_
            refine tk 4 hHeld ?_
            refine tk 5 hHeld ?_
            refine tk 6 hHeld ?_
            refine tk 7 hHeld ?_
            refine tk 8 hHeld ?_
            refine tk 9 hHeld ?_
            refine tk 10 hHeld ?_
            refine tk 11 hHeld ?_
            refine st 12 fun K hK => ?_
            go_simp
            (with_reducible refine Calls.cE (refSameV (by omega) HV) ?_); intros
            refine hd hK ?_
            clear hHeld hK K
            intro hHeld
            refine dn ?_
            clear hHeld
            go_wp2
            go_roundw
            case rel => exact ⟨r + 1, by go_num, by omega, HO, inferInstance⟩
            case measure => simp [intOf]; omega
        · obtain rfl : r = Q.length := by omega
          have hv0 : v = 0 := by
            rcases HVV.out with ⟨_, h2⟩ | ⟨⟨i, hi, he⟩, _⟩
            · exact h2
            · exact absurd (by rw [hQl.out]; exact he) (hR.out i (by rw [hQl.out]; exact hi))
          subst hv0
          go_wp2_with fail
          go_ret
          exact ⟨rfl, (inferInstance : Kp w _).out⟩
end Go.Proofs.YtdlnoeegboapkaaGreatDoor
