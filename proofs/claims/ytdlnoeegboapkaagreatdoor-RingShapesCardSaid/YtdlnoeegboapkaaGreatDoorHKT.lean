/-
  Texts of this claim, joined: Rh16.
-/
import Derived.Test.YtdlnoeegboapkaaGreatDoorHKX
import Derived.Test.YtdlnoeegboapkaaGreatDoorHKM
import Derived.Test.YtdlnoeegboapkaaGreatDoorHKH
import Derived.Test.YtdlnoeegboapkaaGreatDoorHKR
import Derived.Deep.QuietTactic
import Derived.BigQuiet
namespace Go.Proofs.YtdlnoeegboapkaaGreatDoor
open Go.RowKit
set_option linter.unusedVariables false
set_option maxHeartbeats 40000000
set_option maxRecDepth 100000
set_option synthInstance.maxHeartbeats 1000000
set_option synthInstance.maxSize 100000
section
attribute [local go_sem] cell_az0 cell_az1 cell_az2 cell_az3 cell_az4 cell_az5
theorem refSimpleC {w w0 : World} {a : Option Addr} {n c : Nat} {V : List AV} {L : List (Rat × Rat)} {k : Nat} {v : Bool} [hs : Sl w (.slice a n c) V.length (rowA V) w0] [hp : PsQ w V L k] (hk : k ≤ 20) (hV : V.length ≤ 1000) (hR : RingOK L) (hI : IntL L) (hv : Hid (SimpleP L ↔ v = true)) :
    Calls Tryz.prog 47 #[.slice a n c] w (fun e w' => e = .returned (.bool v) ∧ Below w.heap.size w w') := by
  have hpos := hR.pos
  have hl3 := hR.len3
  have HR := Lib.hid hR
  have hlV : V.length = L.length := hp.len
  have HlV := Lib.hid hlV; have hV0 : 0 < V.length := (by omega); obtain rfl := hs.len; obtain ⟨gv, rfl, hA0⟩ := hs.form (by omega)
  have hA : At w gv (rowA V) w := ⟨hA0.out, hA0.ltW, hA0.ltW⟩
  clear hlV; go_enter Tryz.func47, Tryz.ntmps47; go_wp2_with fail
  with_reducible refine Calls.cFsKRet (refEdgesC (V := V) (k := k) (by omega) (by omega) hR.edge) ?_
  intro w2 _ ea ec E _ ep
  have et := ep.tight hI hR
  clear ep hI hA0; have hEl := Lib.hid (et.len.trans (edges_len L))
  have hE3 : 3 ≤ E.length := by rw [hEl.out]; exact hl3
  have hEV : Hid (E.length = V.length) := Lib.hid (hEl.out.trans HlV.out.symm)
  have hE1 : E.length ≤ 1000 := by rw [hEV.out]; exact hV
  have hfv : ∀ i, i < E.length → FGV (fg (edgesL L) i) := fun i hi => by rw [edges_at (by rw [← hEl.out]; exact hi)]; exact segG_v (HR.out.edge i (by rw [← hEl.out]; exact hi))
  have HF := Lib.hid hfv
  have sl2 : Sl w2 (.slice ea E.length ec) E.length (rowH E) w2 := inferInstance
  obtain ⟨ge, rfl, hAe⟩ := sl2.form (by omega); clear hR hpos hl3 hfv sl2
  have pair : Hid (∀ i k, i < E.length → k < i → ¬ PairP L i k → v = false) := Lib.hid (fun i k hi hk hn => by
    cases v
    · rfl
    · exact absurd (simple_iff.1 (hv.out.2 rfl) i k (by rw [← hEl.out]; exact hi) hk) hn)
  go_wp2_with fail
  go_loopw [17] (fun i wr => ∃ q : Nat, i = .int .i64 (q : Int) ∧ q ≤ E.length ∧ Hid (∀ i k, k < q → k < i → i < E.length → PairP L i k) ∧ Kp w2 wr) (fun i _ => E.length - (intOf i).toNat)
  case atStart => exact ⟨0, rfl, by omega, Lib.hid (fun i k h => absurd h (by omega)), inferInstance⟩
  case round =>
    obtain ⟨q, rfl, hq, hQ, i2⟩ := hrel; have kr := Kp1.mk i2.out
    by_cases hlt : q < E.length
    · have hlt' : (q : Int) < E.length := by omega
      have lq : LtN q E.length := ⟨hlt⟩
      have ew : IntKind.i64.wrap ((q : Int) + 1) = (q : Int) + 1 := wr_in (by omega) (by omega)
      go_wp2_with fail
      go_loopw [6] (fun i wx => ∃ m : Nat, i = .int .i64 (m : Int) ∧ q < m ∧ m ≤ E.length ∧ Hid (∀ k, q < k → k < m → PairP L k q) ∧ Kp wr wx) (fun i _ => E.length - (intOf i).toNat)
      case atStart => exact ⟨q + 1, by go_num, by omega, by omega, Lib.hid (fun k h1 h2 => absurd h1 (by omega)), inferInstance⟩
      case round =>
        obtain ⟨m, rfl, hm0, hm, hM, j2⟩ := hrel; have kx := Kp1.mk j2.out
        by_cases hlm : m < E.length
        · have hlm' : (m : Int) < E.length := by omega
          have lm : LtN m E.length := ⟨hlm⟩
          have lmV : LtN m V.length := ⟨by rw [← hEV.out]; exact hlm⟩
          have hmV := lmV.out
          have hmV' : (m : Int) < V.length := (by omega)
          have lzV : LtN 0 V.length := ⟨by omega⟩
          have hzV := lzV.out
          have hzV' : (0 : Int) < V.length := (by omega)
          have ewm : IntKind.i64.wrap ((m : Int) + 1) = (m : Int) + 1 := wr_in (by omega) (by omega)
          obtain ⟨t, ht0⟩ : ∃ t : Nat, E.length - 1 = t := ⟨_, rfl⟩
          have ewt : IntKind.i64.wrap ((E.length : Int) - 1) = (t : Int) := by rw [wr_in (by omega) (by omega)]; omega
          obtain ⟨x, y, one, hmo⟩ := mtO_ex (fg (edgesL L) q) (fg (edgesL L) m); have HMO := Lib.hid hmo; obtain ⟨many, hmany⟩ := ovB_ex (fg (edgesL L) q) (fg (edgesL L) m); have HMA := Lib.hid hmany
          have hf := HF.out q hlt
          have hg := HF.out m hlm
          have HNP : Hid (PairP L m q ↔ many = false ∧ (one = true → AdjP L m q (x, y))) := Lib.hid (by
            have e1 := edges_at (L := L) (i := q) (by rw [← hEl.out]; exact hlt)
            have e2 := edges_at (L := L) (i := m) (by rw [← hEl.out]; exact hlm)
            have h1 := hmany
            have h2 := hmo
            rw [e1, e2] at h1 h2; constructor
            · rintro ⟨a1, a2⟩
              refine ⟨?_, fun e => a2 _ ?_⟩
              · cases many
                · rfl
                · exact absurd (h1.2 rfl).symm a1
              · exact (h2.yes e).symm
            · rintro ⟨rfl, a2⟩
              refine ⟨fun h => (by cases h1.1 h.symm), fun p hp => ?_⟩
              cases one with
              | false => exact absurd hp.symm ((h2.no rfl).2.2 p)
              | true =>
                rw [hp.symm.uniq (h2.yes rfl)]
                exact a2 rfl)
          clear hmo hmany
          go_upto_region 9 with fail
          go_cut [7, 8] from 27 to 38 (fun s u wy => u = .bool many ∧ Kp wr wy)
          case first => as_aux_lemma =>
            refine rgn [] [] fun hH => ?_; refine tk 0 hH ?_; refine tk 1 hH ?_; refine tk 2 hH ?_; refine tk 3 hH ?_; refine tk 4 hH ?_; refine tk 5 hH ?_; refine tk 6 hH ?_; refine tk 7 hH ?_; refine wpAnyT_ready (rs := [8, 12]) (by kernel_rfl) (by simp) ?_; refine AllT.cons (by simp; rfl) (fun K hK => ?_) (AllT.cons (by simp; rfl) (fun K hK => ?_) AllT.nil); go_simp; (with_reducible refine Calls.cFkA (refOverlapV (f := fg (edgesL L) q) (g := fg (edgesL L) m) (k := 2) (by omega) hf hg HMA) ?_); intros; refine hd hK ?_; clear hH hK K; intro hH; refine tk 9 hH ?_; refine tk 10 hH ?_; refine tk 11 hH ?_; refine st 12 fun K hK => ?_; go_simp; refine hd hK ?_; clear hH hK K; intro hH; refine st 13 fun K hK => ?_
            refine st_own (w := wr) 167 (.tmp 7) (.tmp 37) rfl rfl rfl rfl (by kernel_rfl) (by rfl) (by simp [Value.oneCell']) ((inferInstance : Ge wr _).out) ?_
            intro W9 k9 b9; refine hd hK ?_; clear hH hK K; intro hH; refine tk 14 hH ?_; refine dn ?_; clear hH; go_wp2_with fail; go_meet; exact ⟨rfl, inferInstance⟩; go_simp; refine hd hK ?_; clear hH hK K; intro hH; refine st 8 fun K hK => ?_; go_simp; (with_reducible refine Calls.cFkA (refOverlapV (f := fg (edgesL L) q) (g := fg (edgesL L) m) (k := 2) (by omega) hf hg HMA) ?_); intros; refine hd hK ?_; clear hH hK K; intro hH; refine tk 9 hH ?_; refine tk 10 hH ?_; refine tk 11 hH ?_; refine st 13 fun K hK => ?_
            refine st_own (w := wr) 167 (.tmp 7) (.tmp 37) rfl rfl rfl rfl (by kernel_rfl) (by rfl) (by simp [Value.oneCell']) ((inferInstance : Ge wr _).out) ?_
            intro W9 k9 b9; refine hd hK ?_; clear hH hK K; intro hH; refine tk 14 hH ?_; refine dn ?_; clear hH; go_wp2_with fail; go_meet; exact ⟨rfl, inferInstance⟩
          case rest =>
            obtain ⟨rfl, n1⟩ := hcut; have ky := Kp1.mk n1.out
            cases many with
            | true =>
              have hv' : v = false := pair.out m q hlm hm0 (fun h => by cases (HNP.out.1 h).1)
              subst hv'
              clear HMO HMA HNP; go_wp2_with fail; go_ret; exact ⟨rfl, (inferInstance : Kp w _).out⟩
            | false =>
              go_upto_region 12 with fail
              go_cut [9, 10] from 40 to 51 (fun s u wz => ∃ (b9 : Nat) (gx9 : Bool) (ax9 : Option Addr) (lx9 : Nat) (cx9 : Nat) (aax9 : Option Addr) (llx9 : Nat) (ccx9 : Nat) (gy9 : Bool) (ay9 : Option Addr) (ly9 : Nat) (cy9 : Nat) (aay9 : Option Addr) (lly9 : Nat) (ccy9 : Nat) (x' y' : Rat), s = .pointer (some ⟨b9, 0, none⟩) ∧ u = .bool one ∧ Bx wz b9 47 [.bool gx9, .slice ax9 lx9 cx9, .slice aax9 llx9 ccx9, .bool gy9, .slice ay9 ly9 cy9, .slice aay9 lly9 ccy9] ∧ CQ wz (.agg #[.bool gx9, .slice ax9 lx9 cx9, .slice aax9 llx9 ccx9]) x' 136 ∧ CQ wz (.agg #[.bool gy9, .slice ay9 ly9 cy9, .slice aay9 lly9 ccy9]) y' 136 ∧ Hid (one = true → x' = x ∧ y' = y) ∧ Kp wr wz)
              case first => as_aux_lemma =>
                refine rgn [] [] fun hH => ?_; refine tk 0 hH ?_; refine tk 1 hH ?_; refine tk 2 hH ?_; refine tk 3 hH ?_; refine tk 4 hH ?_; refine tk 5 hH ?_; refine tk 6 hH ?_; refine tk 7 hH ?_; refine wpAnyT_ready (rs := [8, 12]) (by kernel_rfl) (by simp) ?_; refine AllT.cons (by simp; rfl) (fun K hK => ?_) (AllT.cons (by simp; rfl) (fun K hK => ?_) AllT.nil); go_simp; (with_reducible refine Calls.cMt (refMeetF (f := fg (edgesL L) q) (g := fg (edgesL L) m) (k := 2) (by omega) hf hg HMO) ?_); intro w9 _ gx9 ax9 lx9 cx9 aax9 llx9 ccx9 gy9 ay9 ly9 cy9 aay9 lly9 ccy9 x9 y9 _ _ hO9; refine hd hK ?_; clear hH hK K; intro hH; refine tk 9 hH ?_; refine tk 10 hH ?_; refine tk 11 hH ?_; refine st 12 fun K hK => ?_; go_simp; refine hd hK ?_; clear hH hK K; intro hH; refine st 13 fun K hK => ?_; go_simp; refine hd hK ?_; clear hH hK K; intro hH; refine tk 14 hH ?_; refine dn ?_; clear hH; go_wp2_with fail; go_meet; exact ⟨_, _, _, _, _, _, _, _, _, _, _, _, _, _, _, x9, y9, rfl, rfl, Bx.re rfl, inferInstance, inferInstance, hO9, inferInstance⟩; go_simp; refine hd hK ?_; clear hH hK K; intro hH; refine st 8 fun K hK => ?_; go_simp; (with_reducible refine Calls.cMt (refMeetF (f := fg (edgesL L) q) (g := fg (edgesL L) m) (k := 2) (by omega) hf hg HMO) ?_); intro w9 _ gx9 ax9 lx9 cx9 aax9 llx9 ccx9 gy9 ay9 ly9 cy9 aay9 lly9 ccy9 x9 y9 _ _ hO9; refine hd hK ?_; clear hH hK K; intro hH; refine tk 9 hH ?_; refine tk 10 hH ?_; refine tk 11 hH ?_; refine st 13 fun K hK => ?_; go_simp; refine hd hK ?_; clear hH hK K; intro hH; refine tk 14 hH ?_; refine dn ?_; clear hH; go_wp2_with fail; go_meet; exact ⟨_, _, _, _, _, _, _, _, _, _, _, _, _, _, _, x9, y9, rfl, rfl, Bx.re rfl, inferInstance, inferInstance, hO9, inferInstance⟩
              case rest =>
                obtain ⟨b9, gx9, ax9, lx9, cx9, aax9, llx9, ccx9, gy9, ay9, ly9, cy9, aay9, lly9, ccy9, x', y', rfl, rfl, o1, o2, o3, o4, o5⟩ := hcut; have kz := Kp1.mk o5.out
                cases one with
                | false =>
                  have HP : Hid (PairP L m q) := Lib.hid (HNP.out.2 ⟨rfl, fun e => by cases e⟩)
                  clear HMO HMA HNP o1 o2 o3 o4; go_wp2_with fail
                  go_roundw
                  case rel => exact ⟨m + 1, by go_num, by omega, by omega, Lib.hid (fun k h1 h2 => by
                    by_cases e : k = m
                    · subst e; exact HP.out
                    · exact hM.out k h1 (by omega)), inferInstance⟩
                  case measure => simp [intOf]; omega
                | true =>
                  obtain ⟨rfl, rfl⟩ := o4.out rfl
                  go_upto_region 14 with fail
                  go_cut [82] from 54 to 81 (fun u wu => ∃ nx : Bool, u = .bool nx ∧ Hid (nx = true ↔ AdjP L m q (x', y')) ∧ Kp wc wu)
                  case first => as_aux_lemma =>
                    clear HNP HMO HMA; obtain ⟨s, hs0⟩ : ∃ s : Nat, q + 1 = s := ⟨_, rfl⟩
                    have ews : IntKind.i64.wrap ((q : Int) + 1) = (s : Int) := by rw [wr_in (by omega) (by omega)]; omega
                    clear ew
                    by_cases a : m = s
                    · by_cases e1 : (x', y') = pg L m
                      · have HE1 : Hid ((decide (x' = (pg L m).1) && decide (y' = (pg L m).2)) = true) := Lib.hid (by rw [← e1]; simp)
                        have HADJ : Hid (AdjP L m q (x', y')) := Lib.hid (.inl ⟨by omega, e1⟩)
                        clear e1; obtain rfl : m = s := a; refine rgn [] [] fun hH => ?_; refine tk 0 hH ?_; refine tk 1 hH ?_; refine tk 2 hH ?_; refine tk 3 hH ?_; refine tk 4 hH ?_; refine tk 5 hH ?_; refine tk 6 hH ?_; refine tk 7 hH ?_; refine tk 8 hH ?_; refine tk 9 hH ?_; refine st 10 fun K hK => ?_; go_simp; (with_reducible refine Calls.cE (refSameV (by omega) HE1) ?_); intros; refine hd hK ?_; clear hH hK K; intro hH; refine tk 11 hH ?_; refine tk 12 hH ?_; refine tkU 13 hH ?_; refine tkU 14 hH ?_; refine tkU 15 hH ?_; refine tkU 16 hH ?_; refine tkU 17 hH ?_; refine tkU 18 hH ?_; refine tkU 19 hH ?_; refine tkU 20 hH ?_; refine tkU 21 hH ?_; refine tkU 22 hH ?_; refine tkU 23 hH ?_; refine tkU 24 hH ?_; refine tkU 25 hH ?_; refine tkU 26 hH ?_; refine tkU 27 hH ?_; refine tk 28 hH ?_; refine dn ?_; clear hH; go_wp2_with fail; go_meet; exact ⟨_, rfl, Lib.hid (⟨fun _ => HADJ.out, fun _ => rfl⟩), inferInstance⟩
                      · have HE1 : Hid ((decide (x' = (pg L m).1) && decide (y' = (pg L m).2)) = false) := Lib.hid (by
                          rw [← Bool.not_eq_true, Bool.and_eq_true, decide_eq_true_iff, decide_eq_true_iff]
                          rintro ⟨h1, h2⟩
                          exact e1 (by rw [h1, h2]))
                        by_cases b : q = 0
                        · have HADJ : Hid (¬ AdjP L m q (x', y')) := Lib.hid (by
                            rintro (⟨_, h⟩ | ⟨h1, h2, _⟩)
                            · exact e1 h
                            · have := hEl.out; omega)
                          have c' : ¬ ((m : Int) = (t : Int)) := (by omega)
                          have cb : ((m : Int) == (t : Int)) = false := beq_false_of_ne c'
                          have HC0 : Hid ((q : Int) = 0) := Lib.hid (by omega)
                          clear e1 b; obtain rfl : m = s := a; clear hs0; refine rgn [] [] fun hH => ?_; refine tk 0 hH ?_; refine tk 1 hH ?_; refine tk 2 hH ?_; refine tk 3 hH ?_; refine tk 4 hH ?_; refine tk 5 hH ?_; refine tk 6 hH ?_; refine tk 7 hH ?_; refine tk 8 hH ?_; refine tk 9 hH ?_; refine st 10 fun K hK => ?_; go_simp; (with_reducible refine Calls.cE (refSameV (by omega) HE1) ?_); intros; refine hd hK ?_; clear hH hK K; intro hH; refine tk 11 hH ?_; refine tk 12 hH ?_; refine tk 13 hH ?_; refine tk 14 hH ?_ (hy := by (intro wx hSw; have hSx := Ex1.mk hSw; have h0 := HC0.out; go_simp; try with_reducible rfl)); refine tk 15 hH ?_; refine tk 16 hH ?_; refine tk 17 hH ?_; refine tk 18 hH ?_; refine tk 19 hH ?_; refine tk 20 hH ?_; refine tk 21 hH ?_; refine tkU 22 hH ?_; refine tkU 23 hH ?_; refine tkU 24 hH ?_; refine tkU 25 hH ?_; refine tkU 26 hH ?_; refine tk 27 hH ?_; refine tk 28 hH ?_; refine dn ?_; clear hH; go_wp2_with fail; go_meet; exact ⟨_, rfl, Lib.hid (⟨fun e => (by cases e), fun e => absurd e HADJ.out⟩), inferInstance⟩
                        · have HADJ : Hid (¬ AdjP L m q (x', y')) := Lib.hid (by
                            rintro (⟨_, h⟩ | ⟨h1, h2, _⟩)
                            · exact e1 h
                            · omega)
                          have b' : ¬ ((q : Int) = 0) := (by omega)
                          have bb : ((q : Int) == 0) = false := beq_false_of_ne b'
                          clear e1; obtain rfl : m = s := a; clear hs0; refine rgn [] [] fun hH => ?_; refine tk 0 hH ?_; refine tk 1 hH ?_; refine tk 2 hH ?_; refine tk 3 hH ?_; refine tk 4 hH ?_; refine tk 5 hH ?_; refine tk 6 hH ?_; refine tk 7 hH ?_; refine tk 8 hH ?_; refine tk 9 hH ?_; refine st 10 fun K hK => ?_; go_simp; (with_reducible refine Calls.cE (refSameV (by omega) HE1) ?_); intros; refine hd hK ?_; clear hH hK K; intro hH; refine tk 11 hH ?_; refine tk 12 hH ?_; refine tk 13 hH ?_; refine tk 14 hH ?_; refine tk 15 hH ?_; refine tkU 16 hH ?_; refine tkU 17 hH ?_; refine tkU 18 hH ?_; refine tkU 19 hH ?_; refine tk 20 hH ?_; refine tk 21 hH ?_; refine tkU 22 hH ?_; refine tkU 23 hH ?_; refine tkU 24 hH ?_; refine tkU 25 hH ?_; refine tkU 26 hH ?_; refine tk 27 hH ?_; refine tk 28 hH ?_; refine dn ?_; clear hH; go_wp2_with fail; go_meet; exact ⟨_, rfl, Lib.hid (⟨fun e => (by cases e), fun e => absurd e HADJ.out⟩), inferInstance⟩
                    · have a' : ¬ ((m : Int) = (s : Int)) := by omega
                      have ab : ((m : Int) == (s : Int)) = false := beq_false_of_ne a'
                      by_cases b : q = 0
                      · by_cases c : m = t
                        · obtain ⟨z, hz⟩ : ∃ z, (decide (x' = (pg L 0).1) && decide (y' = (pg L 0).2)) = z := ⟨_, rfl⟩; have HE2 := Lib.hid hz
                          have HADJ : Hid (z = true ↔ AdjP L m q (x', y')) := Lib.hid (by
                            rw [← hz, Bool.and_eq_true, decide_eq_true_iff, decide_eq_true_iff]; constructor
                            · rintro ⟨h1, h2⟩; exact .inr ⟨by have := hEl.out; omega, b, by rw [h1, h2]⟩
                            · rintro (⟨h1, _⟩ | ⟨_, _, h3⟩)
                              · omega
                              · rw [← h3]; exact ⟨rfl, rfl⟩)
                          have HC0 : Hid ((q : Int) = 0) := Lib.hid (by omega)
                          clear hz hs0 b; obtain rfl : m = t := c; refine rgn [] [] fun hH => ?_; refine tk 0 hH ?_; refine tk 1 hH ?_; refine tk 2 hH ?_; refine tk 3 hH ?_; refine tk 4 hH ?_; refine tkU 5 hH ?_; refine tkU 6 hH ?_; refine tkU 7 hH ?_; refine tkU 8 hH ?_; refine tkU 9 hH ?_; refine tkU 10 hH ?_; refine tk 11 hH ?_; refine tk 12 hH ?_; refine tk 13 hH ?_; refine tk 14 hH ?_ (hy := by (intro wx hSw; have hSx := Ex1.mk hSw; have h0 := HC0.out; go_simp; try with_reducible rfl)); refine tk 15 hH ?_; refine tk 16 hH ?_; refine tk 17 hH ?_; refine tk 18 hH ?_; refine tk 19 hH ?_; refine tk 20 hH ?_; refine tk 21 hH ?_; refine tk 22 hH ?_; refine tk 23 hH ?_; refine tk 24 hH ?_; refine tk 25 hH ?_; refine st 26 fun K hK => ?_; go_simp; (with_reducible refine Calls.cE (refSameV (by omega) HE2) ?_); intros; refine hd hK ?_; clear hH hK K; intro hH; refine tk 27 hH ?_; refine tk 28 hH ?_; refine dn ?_; clear hH; go_wp2_with fail; go_meet; exact ⟨_, rfl, Lib.hid (HADJ.out), inferInstance⟩
                        · have c' : ¬ ((m : Int) = (t : Int)) := by omega
                          have cb : ((m : Int) == (t : Int)) = false := beq_false_of_ne c'
                          have HADJ : Hid (¬ AdjP L m q (x', y')) := Lib.hid (by
                            rintro (⟨h, _⟩ | ⟨h1, h2, _⟩)
                            · omega
                            · have := hEl.out; omega)
                          have HC0 : Hid ((q : Int) = 0) := Lib.hid (by omega)
                          clear hs0 b; refine rgn [] [] fun hH => ?_; refine tk 0 hH ?_; refine tk 1 hH ?_; refine tk 2 hH ?_; refine tk 3 hH ?_; refine tk 4 hH ?_; refine tkU 5 hH ?_; refine tkU 6 hH ?_; refine tkU 7 hH ?_; refine tkU 8 hH ?_; refine tkU 9 hH ?_; refine tkU 10 hH ?_; refine tk 11 hH ?_; refine tk 12 hH ?_; refine tk 13 hH ?_; refine tk 14 hH ?_ (hy := by (intro wx hSw; have hSx := Ex1.mk hSw; have h0 := HC0.out; go_simp; try with_reducible rfl)); refine tk 15 hH ?_; refine tk 16 hH ?_; refine tk 17 hH ?_; refine tk 18 hH ?_; refine tk 19 hH ?_; refine tk 20 hH ?_; refine tk 21 hH ?_; refine tkU 22 hH ?_; refine tkU 23 hH ?_; refine tkU 24 hH ?_; refine tkU 25 hH ?_; refine tkU 26 hH ?_; refine tk 27 hH ?_; refine tk 28 hH ?_; refine dn ?_; clear hH; go_wp2_with fail; go_meet; exact ⟨_, rfl, Lib.hid (⟨fun e => (by cases e), fun e => absurd e HADJ.out⟩), inferInstance⟩
                      · have b' : ¬ ((q : Int) = 0) := by omega
                        have bb : ((q : Int) == 0) = false := beq_false_of_ne b'
                        have HADJ : Hid (¬ AdjP L m q (x', y')) := Lib.hid (by
                          rintro (⟨h, _⟩ | ⟨h1, h2, _⟩)
                          · omega
                          · exact b h2)
                        clear hs0
                        go_quiet (fail)
                        go_wp2_with fail; go_meet; exact ⟨_, rfl, Lib.hid (⟨fun e => (by cases e), fun e => absurd e HADJ.out⟩), inferInstance⟩
                  case rest => as_aux_lemma =>
                    obtain ⟨nx, rfl, HN, j3⟩ := hcut; have ku := Kp1.mk j3.out
                    cases nx with
                    | true =>
                      have HP : Hid (PairP L m q) := Lib.hid (HNP.out.2 ⟨rfl, fun e => HN.out.1 rfl⟩)
                      clear HMO HMA HNP; go_wp2_with fail
                      go_roundw
                      case rel => exact ⟨m + 1, by go_num, by omega, by omega, Lib.hid (fun k h1 h2 => by
                        by_cases e : k = m
                        · subst e; exact HP.out
                        · exact hM.out k h1 (by omega)), inferInstance⟩
                      case measure => simp [intOf]; omega
                    | false =>
                      have hv' : v = false := pair.out m q hlm hm0 (fun h => by cases HN.out.2 ((HNP.out.1 h).2 rfl))
                      subst hv'
                      clear HMO HMA HNP; go_wp2_with fail; go_ret; exact ⟨rfl, (inferInstance : Kp w _).out⟩
        · obtain rfl : m = E.length := by omega
          go_wp2_with fail
          go_roundw
          case rel => exact ⟨q + 1, by go_num, by omega, Lib.hid (fun i k hk hik hi => by
            by_cases e : k = q
            · subst e; exact hM.out i hik hi
            · exact hQ.out i k (by omega) hik hi), inferInstance⟩
          case measure => simp [intOf]; omega
    · obtain rfl : q = E.length := by omega
      have hv' : v = true := hv.out.1 (simple_iff.2 (fun i k hi hk => hQ.out i k (by rw [hEl.out]; omega) hk (by rw [hEl.out]; exact hi)))
      subst hv'
      go_wp2_with fail; go_ret; exact ⟨rfl, (inferInstance : Kp w _).out⟩
end
end Go.Proofs.YtdlnoeegboapkaaGreatDoor
