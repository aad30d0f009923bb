/-
  Texts of this claim, joined: Rg24.
-/
import Derived.Test.YtdlnoeegboapkaaGreatDoorHKM
import Derived.Test.YtdlnoeegboapkaaGreatDoorHKN
import Derived.Test.YtdlnoeegboapkaaGreatDoorHKO
import Derived.Test.YtdlnoeegboapkaaGreatDoorHKP
import Derived.Deep.QuietTactic
import Derived.BigQuiet
namespace Go.Proofs.YtdlnoeegboapkaaGreatDoor
open Go.RowKit
set_option linter.unusedVariables false
set_option maxHeartbeats 40000000
set_option maxRecDepth 100000
set_option synthInstance.maxHeartbeats 1000000
set_option synthInstance.maxSize 100000
section
attribute [local go_sem] cell_fz0 cell_fz1 cell_fz2 cell_fz3 cell_fz4 cell_fz5
theorem frMeetV {w : World} {nx1 dx1 ny1 dy1 nz1 dz1 nu1 du1 nv1 dv1 nx2 dx2 ny2 dy2 nz2 dz2 nu2 du2 nv2 dv2 : Int} {px1 py1 pz1 pu1 pv1 px2 py2 pz2 pu2 pv2 : Option Addr} {f g : FG} {k : Nat} [jx1 : CF w (.agg #[.int .i64 nx1, .int .i64 dx1, .pointer px1]) (f.a : Rat) k] [jy1 : CF w (.agg #[.int .i64 ny1, .int .i64 dy1, .pointer py1]) (f.b : Rat) k] [jz1 : CF w (.agg #[.int .i64 nz1, .int .i64 dz1, .pointer pz1]) (f.c : Rat) k] [ju1 : CF w (.agg #[.int .i64 nu1, .int .i64 du1, .pointer pu1]) f.lo k] [jv1 : CF w (.agg #[.int .i64 nv1, .int .i64 dv1, .pointer pv1]) f.hi k] [jx2 : CF w (.agg #[.int .i64 nx2, .int .i64 dx2, .pointer px2]) (g.a : Rat) k] [jy2 : CF w (.agg #[.int .i64 ny2, .int .i64 dy2, .pointer py2]) (g.b : Rat) k] [jz2 : CF w (.agg #[.int .i64 nz2, .int .i64 dz2, .pointer pz2]) (g.c : Rat) k] [ju2 : CF w (.agg #[.int .i64 nu2, .int .i64 du2, .pointer pu2]) g.lo k] [jv2 : CF w (.agg #[.int .i64 nv2, .int .i64 dv2, .pointer pv2]) g.hi k] {x y : Rat} {one : Bool} (b : k ≤ 100 ∧ 2 ≤ k) (hf : FGV f) (hg : FGV g) (hm : Hid (MtO f g x y one)) :
    Calls Tryz.prog 106 #[.agg #[.int .i64 nx1, .int .i64 dx1, .pointer px1, .int .i64 ny1, .int .i64 dy1, .pointer py1, .int .i64 nz1, .int .i64 dz1, .pointer pz1, .int .i64 nu1, .int .i64 du1, .pointer pu1, .int .i64 nv1, .int .i64 dv1, .pointer pv1, .bool false, .bool false], .agg #[.int .i64 nx2, .int .i64 dx2, .pointer px2, .int .i64 ny2, .int .i64 dy2, .pointer py2, .int .i64 nz2, .int .i64 dz2, .pointer pz2, .int .i64 nu2, .int .i64 du2, .pointer pu2, .int .i64 nv2, .int .i64 dv2, .pointer pv2, .bool false, .bool false]] w (PFBRet w x y one (18 * k + 120)) := by
  cases one with
  | true => exact frMeetOk b hf hg (hm.out.yes rfl)
  | false =>
    obtain ⟨rfl, rfl, h⟩ := hm.out.no rfl; exact frMeetNo b hf hg h
theorem rSimpleC {w w0 : World} {a : Option Addr} {n c : Nat} {V : List AV} {L : List (Rat × Rat)} {k : Nat} {v : Bool} [hs : Sl w (.slice a n c) V.length (rowA V) w0] [hp : PsA w V L k] (b : k ≤ 8) (hV : V.length ≤ 1000) (hR : RingOK L) (hI : IntL L) (hv : Hid (SimpleP L ↔ v = true)) :
    Calls Tryz.prog 44 #[.slice a n c] w (fun e w' => e = .returned (.tuple #[.bool v, .nilIface]) ∧ Below w.heap.size w w') := by
  have hpos := hR.pos
  have hl3 := hR.len3
  have HR := Lib.hid hR; have HI := Lib.hid hI; go_enter Tryz.func44, Tryz.ntmps44; go_wp2_with fail
  with_reducible refine Calls.cPsFEr (ringOfOk (by omega) (by omega) hR) ?_
  intro w1 _ a1 c1 V1 _ ip1
  have hV1 : V1.length ≤ 1000 := by rw [ip1.len, ← PsA.len (W := w) (V := V)]; exact hV
  have hV2 : 0 < V1.length := by rw [ip1.len]; exact hpos
  have hlen := Lib.hid ip1.len; go_wp2_with fail
  with_reducible refine Calls.cFsGRet (frsC (V := V1) (by omega) (by omega) hV2 hR.edge) ?_
  intro w2 _ ea ec E _ ep
  have et := ep.tight hI hR
  clear ep hI; have hEl := Lib.hid (et.len.trans (edges_len L))
  have hE3 : 3 ≤ E.length := by rw [hEl.out]; exact hl3
  have hEV : Hid (E.length = V1.length) := Lib.hid (hEl.out.trans hlen.out.symm)
  have hE1 : E.length ≤ 1000 := by rw [hEV.out]; exact hV1
  have hfv : ∀ i, i < E.length → FGV (fg (edgesL L) i) := fun i hi => by rw [edges_at (by rw [← hEl.out]; exact hi)]; exact segG_v (HR.out.edge i (by rw [← hEl.out]; exact hi))
  have HF := Lib.hid hfv
  have sl1 : Sl w2 (.slice a1 V1.length c1) V1.length (rowF V1) w2 := (inferInstance : Sl w2 (.slice a1 V1.length c1) V1.length (rowF V1) w1).here
  obtain ⟨g, rfl, hA⟩ := sl1.form hV2
  have sl2 : Sl w2 (.slice ea E.length ec) E.length (rowG E) w2 := inferInstance
  obtain ⟨ge, rfl, hAe⟩ := sl2.form (by omega)
  have hcap := sl2.capc
  clear hR hpos hl3 hfv sl1 sl2
  have pair : Hid (∀ i k, i < E.length → k < i → ¬ PairP L i k → v = false) := Lib.hid (fun i k hi hk hn => by
    cases v
    · rfl
    · exact absurd (simple_iff.1 (hv.out.2 rfl) i k (by rw [← hEl.out]; exact hi) hk) hn)
  go_wp2_with fail
  go_loopw [31] (fun i wr => ∃ q : Nat, i = .int .i64 (q : Int) ∧ q ≤ E.length ∧ Hid (∀ i k, i < q → k < i → PairP L i k) ∧ Kp w2 wr) (fun i _ => E.length - (intOf i).toNat)
  case atStart => exact ⟨0, rfl, by omega, Lib.hid (fun i k h => absurd h (by omega)), inferInstance⟩
  case round =>
    obtain ⟨q, rfl, hq, hQ, i2⟩ := hrel; have kr := Kp1.mk i2.out
    by_cases hlt : q < E.length
    · have hlt' : (q : Int) < E.length := by omega
      have lq : LtN q E.length := ⟨hlt⟩; have lz : LtN 0 V1.length := ⟨hV2⟩
      have lq1 : LtN q V1.length := ⟨by rw [← hEV.out]; exact hlt⟩
      have hqv : q < V1.length := lq1.out
      have hqv' : (q : Int) < V1.length := (by omega); have hqc : q ≤ ec := (by omega); have hqc' : (q : Int) ≤ ec := (by omega)
      have ew : IntKind.i64.wrap ((q : Int) + 1) = (q : Int) + 1 := wr_in (by omega) (by omega)
      go_wp2_with (first
        | (with_reducible refine step_ld (t := 182) (x := .tmp 34) rfl rfl rfl (load_G (k := q) hlt) ?_))
      go_loopw [40] (fun i wx => ∃ m : Nat, i = .int .i64 (m : Int) ∧ m ≤ q ∧ Hid (∀ k, k < m → PairP L q k) ∧ Bx wx wr.heap.size 182 [.int .i64 (gV E q).nx, .int .i64 (gV E q).dx, .pointer (gV E q).px, .int .i64 (gV E q).ny, .int .i64 (gV E q).dy, .pointer (gV E q).py, .int .i64 (gV E q).nz, .int .i64 (gV E q).dz, .pointer (gV E q).pz, .int .i64 (gV E q).nu, .int .i64 (gV E q).du, .pointer (gV E q).pu, .int .i64 (gV E q).nv, .int .i64 (gV E q).dv, .pointer (gV E q).pv, .bool false, .bool false] ∧ Kp wr wx) (fun i _ => q - (intOf i).toNat)
      case atStart => exact ⟨0, rfl, by omega, Lib.hid (fun k h => absurd h (by omega)), Bx.re rfl, inferInstance⟩
      case round =>
        obtain ⟨m, rfl, hm, hM, j1, j2⟩ := hrel; have kx := Kp1.mk j2.out
        by_cases hlm : m < q
        · have hlm' : (m : Int) < q := by omega
          have hmE : m < E.length := (by omega); have hmE' : (m : Int) < E.length := (by omega); have lm : LtN m E.length := ⟨hmE⟩; obtain ⟨s, hs0⟩ : ∃ s : Nat, m + 1 = s := ⟨_, rfl⟩
          have ews : IntKind.i64.wrap ((m : Int) + 1) = (s : Int) := by rw [wr_in (by omega) (by omega)]; omega
          obtain ⟨t, ht0⟩ : ∃ t : Nat, E.length - 1 = t := ⟨_, rfl⟩
          have ewt : IntKind.i64.wrap ((E.length : Int) - 1) = (t : Int) := by rw [wr_in (by omega) (by omega)]; omega
          obtain ⟨x, y, one, hmo⟩ := mtO_ex (fg (edgesL L) q) (fg (edgesL L) m); have HMO := Lib.hid hmo; obtain ⟨many, hmany⟩ := ovB_ex (fg (edgesL L) q) (fg (edgesL L) m); have HMA := Lib.hid hmany
          have hf := HF.out q hlt
          have hg := HF.out m hmE
          clear hmo hmany
          go_upto_region 14 with (first
            | (with_reducible refine step_ld (t := 182) (x := .tmp 43) rfl rfl rfl (load_G (k := m) hmE) ?_)
            | (with_reducible refine step_ld (t := 182) (x := .tmp 9) rfl rfl rfl (load_box Tryz.underlying182 rfl (by kernel_rfl)) ?_)
            | (with_reducible refine step_ld (t := 182) (x := .tmp 11) rfl rfl rfl (load_box Tryz.underlying182 rfl (by kernel_rfl)) ?_)
            | (go_at_call 106; (with_reducible refine Calls.cPFB (frMeetV (k := 2) (by omega) hf hg HMO) ?_); intro w3 _ nx dx px ny dy py _ _)
            | (go_at_call 107; (with_reducible refine Calls.cFzB (overlapV (k := 2) (by omega) hf hg HMA) ?_); intro w4 _ nx9 dx9 px9 ny9 dy9 py9 nz9 dz9 pz9 nu9 du9 pu9 nv9 dv9 pv9))
          clear hf hg
          go_cut [16] from 57 to 91 (fun u wy => ∃ nx : Bool, u = .bool nx ∧ Hid (one = true → (nx = true ↔ AdjP L q m (x, y))) ∧ Kp w4 wy)
          case first => as_aux_lemma =>
            cases one with
            | false =>
              clear HMO
              by_cases a : q = s
              · have aB : ¬ (q = t ∧ m = 0) := by omega
                by_cases b : q = t
                · have c : ¬ ((m : Int) = 0) := by omega
                  have cb : ((m : Int) == 0) = false := beq_false_of_ne c
                  obtain rfl : q = s := a; clear hs0 aB; obtain rfl : q = t := b
                  go_quiet (fail)
                  go_wp2_with fail; go_meet; exact ⟨_, rfl, Lib.hid (fun e => by cases e), inferInstance⟩
                · have b' : ¬ ((q : Int) = (t : Int)) := by omega
                  have bb : ((q : Int) == (t : Int)) = false := beq_false_of_ne b'
                  obtain rfl : q = s := a
                  go_quiet (fail)
                  go_wp2_with fail; go_meet; exact ⟨_, rfl, Lib.hid (fun e => by cases e), inferInstance⟩
              · have a' : ¬ ((q : Int) = (s : Int)) := by omega
                have ab : ((q : Int) == (s : Int)) = false := beq_false_of_ne a'
                by_cases b : q = t
                · obtain rfl : q = t := b
                  by_cases c : m = 0
                  · have HC0 : Hid ((m : Int) = 0) := Lib.hid (by omega)
                    clear c; refine rgn [] [] fun hH => ?_; refine tk 0 hH ?_; refine tk 1 hH ?_; refine tk 2 hH ?_; refine tk 3 hH ?_; refine tk 4 hH ?_; refine tkU 5 hH ?_; refine tk 6 hH ?_; refine tk 7 hH ?_; refine tkU 8 hH ?_; refine tkU 9 hH ?_; refine tkU 10 hH ?_; refine tkU 11 hH ?_; refine tkU 12 hH ?_; refine tkU 13 hH ?_; refine tk 14 hH ?_; refine tk 15 hH ?_; refine tk 16 hH ?_; refine tk 17 hH ?_; refine tk 18 hH ?_; refine tk 19 hH ?_; refine tk 20 hH ?_; refine tk 21 hH ?_; refine tk 22 hH ?_ (hy := by (intro wx hSw; have hSx := Ex1.mk hSw; have h0 := HC0.out; go_simp; try with_reducible rfl)); refine tk 23 hH ?_; refine tk 24 hH ?_; refine tk 25 hH ?_; refine tk 26 hH ?_; refine tk 27 hH ?_; refine tkU 28 hH ?_; refine tkU 29 hH ?_; refine tkU 30 hH ?_; refine tkU 31 hH ?_; refine tkU 32 hH ?_; refine tk 33 hH ?_; refine tk 34 hH ?_; refine tk 35 hH ?_; refine dn ?_; clear hH; go_wp2_with fail; go_meet; exact ⟨_, rfl, Lib.hid (fun e => by cases e), inferInstance⟩
                  · have c' : ¬ ((m : Int) = 0) := by omega
                    have cb : ((m : Int) == 0) = false := beq_false_of_ne c'
                    go_quiet (fail)
                    go_wp2_with fail; go_meet; exact ⟨_, rfl, Lib.hid (fun e => by cases e), inferInstance⟩
                · have b' : ¬ ((q : Int) = (t : Int)) := by omega
                  have bb : ((q : Int) == (t : Int)) = false := beq_false_of_ne b'
                  go_quiet (fail)
                  go_wp2_with fail; go_meet; exact ⟨_, rfl, Lib.hid (fun e => by cases e), inferInstance⟩
            | true =>
              by_cases a : q = s
              · by_cases e1 : (x, y) = pg L q
                · have HE1 : Hid (decide ((x, y) = ((pg L q).1, (pg L q).2)) = true) := Lib.hid (decide_eq_true e1)
                  have HADJ : Hid (AdjP L q m (x, y)) := Lib.hid (.inl ⟨by omega, e1⟩)
                  clear e1; obtain rfl : q = s := a; refine rgn [] [] fun hH => ?_; refine tk 0 hH ?_; refine tk 1 hH ?_; refine tk 2 hH ?_; refine tk 3 hH ?_; refine tk 4 hH ?_; refine tk 5 hH ?_; refine tk 6 hH ?_; refine tk 7 hH ?_; refine tk 8 hH ?_; refine tk 9 hH ?_; refine tk 10 hH ?_; refine tk 11 hH ?_; refine tk 12 hH ?_; refine st 13 fun K hK => ?_; go_simp; (with_reducible refine Calls.cE (ptEqualV (by omega) HE1) ?_); intros; refine hd hK ?_; clear hH hK K; intro hH; refine tk 14 hH ?_; refine tk 15 hH ?_; refine tkU 16 hH ?_; refine tkU 17 hH ?_; refine tkU 18 hH ?_; refine tkU 19 hH ?_; refine tkU 20 hH ?_; refine tkU 21 hH ?_; refine tkU 22 hH ?_; refine tkU 23 hH ?_; refine tkU 24 hH ?_; refine tkU 25 hH ?_; refine tkU 26 hH ?_; refine tkU 27 hH ?_; refine tkU 28 hH ?_; refine tkU 29 hH ?_; refine tkU 30 hH ?_; refine tkU 31 hH ?_; refine tkU 32 hH ?_; refine tkU 33 hH ?_; refine tk 34 hH ?_; refine tk 35 hH ?_; refine dn ?_; clear hH; go_wp2_with fail; go_meet; exact ⟨_, rfl, Lib.hid (fun _ => ⟨fun _ => HADJ.out, fun _ => rfl⟩), inferInstance⟩
                · have HE1 : Hid (decide ((x, y) = ((pg L q).1, (pg L q).2)) = false) := Lib.hid (decide_eq_false e1)
                  have HADJ : Hid (¬ AdjP L q m (x, y)) := Lib.hid (by
                    rintro (⟨_, h⟩ | ⟨h1, h2, _⟩)
                    · exact e1 h
                    · have := hEl.out; omega)
                  clear e1
                  by_cases b : q = t
                  · have c : ¬ ((m : Int) = 0) := by omega
                    have cb : ((m : Int) == 0) = false := beq_false_of_ne c
                    obtain rfl : q = s := a; clear hs0; obtain rfl : q = t := b; refine rgn [] [] fun hH => ?_; refine tk 0 hH ?_; refine tk 1 hH ?_; refine tk 2 hH ?_; refine tk 3 hH ?_; refine tk 4 hH ?_; refine tk 5 hH ?_; refine tk 6 hH ?_; refine tk 7 hH ?_; refine tk 8 hH ?_; refine tk 9 hH ?_; refine tk 10 hH ?_; refine tk 11 hH ?_; refine tk 12 hH ?_; refine st 13 fun K hK => ?_; go_simp; (with_reducible refine Calls.cE (ptEqualV (by omega) HE1) ?_); intros; refine hd hK ?_; clear hH hK K; intro hH; refine tk 14 hH ?_; refine tk 15 hH ?_; refine tk 16 hH ?_; refine tk 17 hH ?_; refine tk 18 hH ?_; refine tk 19 hH ?_; refine tk 20 hH ?_; refine tk 21 hH ?_; refine tk 22 hH ?_; refine tk 23 hH ?_; refine tk 24 hH ?_; refine tkU 25 hH ?_; refine tk 26 hH ?_; refine tk 27 hH ?_; refine tkU 28 hH ?_; refine tkU 29 hH ?_; refine tkU 30 hH ?_; refine tkU 31 hH ?_; refine tkU 32 hH ?_; refine tk 33 hH ?_; refine tk 34 hH ?_; refine tk 35 hH ?_; refine dn ?_; clear hH; go_wp2_with fail; go_meet; exact ⟨_, rfl, Lib.hid (fun _ => ⟨fun e => (by cases e), fun e => absurd e HADJ.out⟩), inferInstance⟩
                  · have b' : ¬ ((q : Int) = (t : Int)) := by omega
                    have bb : ((q : Int) == (t : Int)) = false := beq_false_of_ne b'
                    obtain rfl : q = s := a; refine rgn [] [] fun hH => ?_; refine tk 0 hH ?_; refine tk 1 hH ?_; refine tk 2 hH ?_; refine tk 3 hH ?_; refine tk 4 hH ?_; refine tk 5 hH ?_; refine tk 6 hH ?_; refine tk 7 hH ?_; refine tk 8 hH ?_; refine tk 9 hH ?_; refine tk 10 hH ?_; refine tk 11 hH ?_; refine tk 12 hH ?_; refine st 13 fun K hK => ?_; go_simp; (with_reducible refine Calls.cE (ptEqualV (by omega) HE1) ?_); intros; refine hd hK ?_; clear hH hK K; intro hH; refine tk 14 hH ?_; refine tk 15 hH ?_; refine tk 16 hH ?_; refine tk 17 hH ?_; refine tk 18 hH ?_; refine tk 19 hH ?_; refine tk 20 hH ?_; refine tkU 21 hH ?_; refine tkU 22 hH ?_; refine tk 23 hH ?_; refine tk 24 hH ?_; refine tkU 25 hH ?_; refine tk 26 hH ?_; refine tk 27 hH ?_; refine tkU 28 hH ?_; refine tkU 29 hH ?_; refine tkU 30 hH ?_; refine tkU 31 hH ?_; refine tkU 32 hH ?_; refine tk 33 hH ?_; refine tk 34 hH ?_; refine tk 35 hH ?_; refine dn ?_; clear hH; go_wp2_with fail; go_meet; exact ⟨_, rfl, Lib.hid (fun _ => ⟨fun e => (by cases e), fun e => absurd e HADJ.out⟩), inferInstance⟩
              · have a' : ¬ ((q : Int) = (s : Int)) := by omega
                have ab : ((q : Int) == (s : Int)) = false := beq_false_of_ne a'
                by_cases b : q = t
                · by_cases c : m = 0
                  · obtain ⟨z, hz⟩ : ∃ z, decide ((x, y) = ((pg L 0).1, (pg L 0).2)) = z := ⟨_, rfl⟩; have HE2 := Lib.hid hz
                    have HADJ : Hid (z = true ↔ AdjP L q m (x, y)) := Lib.hid (by
                      rw [← hz, decide_eq_true_iff]; constructor
                      · intro h; exact .inr ⟨by have := hEl.out; omega, c, h⟩
                      · rintro (⟨h1, _⟩ | ⟨_, _, h3⟩)
                        · omega
                        · exact h3)
                    clear hz; obtain rfl : q = t := b
                    have HC0 : Hid ((m : Int) = 0) := Lib.hid (by omega)
                    clear c; refine rgn [] [] fun hH => ?_; refine tk 0 hH ?_; refine tk 1 hH ?_; refine tk 2 hH ?_; refine tk 3 hH ?_; refine tk 4 hH ?_; refine tkU 5 hH ?_; refine tk 6 hH ?_; refine tk 7 hH ?_; refine tkU 8 hH ?_; refine tkU 9 hH ?_; refine tkU 10 hH ?_; refine tkU 11 hH ?_; refine tkU 12 hH ?_; refine tkU 13 hH ?_; refine tk 14 hH ?_; refine tk 15 hH ?_; refine tk 16 hH ?_; refine tk 17 hH ?_; refine tk 18 hH ?_; refine tk 19 hH ?_; refine tk 20 hH ?_; refine tk 21 hH ?_; refine tk 22 hH ?_ (hy := by (intro wx hSw; have hSx := Ex1.mk hSw; have h0 := HC0.out; go_simp; try with_reducible rfl)); refine tk 23 hH ?_; refine tk 24 hH ?_; refine tk 25 hH ?_; refine tk 26 hH ?_; refine tk 27 hH ?_; refine tk 28 hH ?_; refine tk 29 hH ?_; refine tk 30 hH ?_; refine tk 31 hH ?_; refine st 32 fun K hK => ?_; go_simp; (with_reducible refine Calls.cE (ptEqualV (by omega) HE2) ?_); intros; refine hd hK ?_; clear hH hK K; intro hH; refine tk 33 hH ?_; refine tk 34 hH ?_; refine tk 35 hH ?_; refine dn ?_; clear hH; go_wp2_with fail; go_meet; exact ⟨_, rfl, Lib.hid (fun _ => HADJ.out), inferInstance⟩
                  · have c' : ¬ ((m : Int) = 0) := by omega
                    have cb : ((m : Int) == 0) = false := beq_false_of_ne c'
                    have HADJ : Hid (¬ AdjP L q m (x, y)) := Lib.hid (by
                      rintro (⟨h, _⟩ | ⟨h1, h2, _⟩)
                      · omega
                      · exact c h2)
                    obtain rfl : q = t := b
                    go_quiet (fail)
                    go_wp2_with fail; go_meet; exact ⟨_, rfl, Lib.hid (fun _ => ⟨fun e => (by cases e), fun e => absurd e HADJ.out⟩), inferInstance⟩
                · have b' : ¬ ((q : Int) = (t : Int)) := by omega
                  have bb : ((q : Int) == (t : Int)) = false := beq_false_of_ne b'
                  have HADJ : Hid (¬ AdjP L q m (x, y)) := Lib.hid (by
                    rintro (⟨h, _⟩ | ⟨h1, h2, _⟩)
                    · omega
                    · have := hEl.out; omega)
                  go_quiet (fail)
                  go_wp2_with fail; go_meet; exact ⟨_, rfl, Lib.hid (fun _ => ⟨fun e => (by cases e), fun e => absurd e HADJ.out⟩), inferInstance⟩
          case rest => as_aux_lemma =>
            obtain ⟨nx1, rfl, HN, j3⟩ := hcut; have ky := Kp1.mk j3.out
            have HB : Hid ((¬ (many = true ∨ one = true ∧ nx1 = false) → PairP L q m) ∧ (many = true ∨ one = true ∧ nx1 = false → v = false)) := Lib.hid (by
              have e1 := edges_at (L := L) (i := q) (by rw [← hEl.out]; exact hlt)
              have e2 := edges_at (L := L) (i := m) (by rw [← hEl.out]; exact hmE)
              have h1 := HMA.out
              have h2 := HMO.out
              rw [e1, e2] at h1 h2
              have hp : (¬ (many = true ∨ one = true ∧ nx1 = false)) → PairP L q m := fun hn => by
                refine ⟨fun e => hn (.inl (h1.1 e)), fun p hp => ?_⟩
                cases one with
                | false => exact absurd hp ((h2.no rfl).2.2 p)
                | true =>
                  have e := hp.uniq (h2.yes rfl)
                  rw [e]
                  refine (HN.out rfl).1 ?_
                  cases nx1
                  · exact absurd (Or.inr ⟨rfl, rfl⟩) hn
                  · rfl
              refine ⟨hp, fun hb => pair.out q m hlt hlm ?_⟩
              rintro ⟨q1, q2⟩
              rcases hb with hb | ⟨rfl, hb⟩
              · exact q1 (h1.2 hb)
              · have := (HN.out rfl).2 (q2 _ (h2.yes rfl))
                rw [hb] at this
                cases this)
            cases many <;> cases one <;> cases nx1
            all_goals
              go_wp2_with fail
              first
                | (go_roundw; (case rel => exact ⟨s, rfl, by omega, Lib.hid (fun k hk => by
                    by_cases e : k = m
                    · subst e; exact HB.out.1 (by simp)
                    · exact hM.out k (by omega)), inferInstance, inferInstance⟩); (case measure => simp [intOf]; omega))
                | (go_ret2; exact ⟨by rw [HB.out.2 (by simp)]; rfl, (inferInstance : Kp w _).out⟩)
        · obtain rfl : m = q := by omega
          go_wp2_with fail
          go_roundw
          case rel => exact ⟨m + 1, by go_num, by omega, Lib.hid (fun i k hi hk => by
            by_cases e : i = m
            · subst e; exact hM.out k hk
            · exact hQ.out i k (by omega) hk), inferInstance⟩
          case measure => simp [intOf]; omega
    · obtain rfl : q = E.length := by omega
      have hv' : v = true := hv.out.1 (simple_iff.2 (fun i k hi hk => hQ.out i k (by rw [hEl.out]; exact hi) hk))
      subst hv'
      go_wp2_with fail; go_ret2; exact ⟨rfl, (inferInstance : Kp w _).out⟩
end
end Go.Proofs.YtdlnoeegboapkaaGreatDoor
