/-
  Texts of this claim, joined: Rc7.
-/
import Derived.Test.YtdlnoeegboapkaaGreatDoorHKB
import Derived.Test.YtdlnoeegboapkaaGreatDoorCO
/- bspregionscene.SmallP at a ring that came in; bspregionkeep.RingKind. printed by a small program (mkrc7.py). -/
namespace Go.Proofs.YtdlnoeegboapkaaGreatDoor
open Go.RowKit
set_option maxRecDepth 100000
set_option maxHeartbeats 40000000
set_option synthInstance.maxSize 100000
set_option synthInstance.maxHeartbeats 1000000
set_option linter.unusedVariables false

theorem smallQ4 {w : World} {q : Nat} {g1 : Bool} {a1 aa1 : Option Addr} {l1 c1 ll1 cc1 : Nat} {g2 : Bool} {a2 aa2 : Option Addr} {l2 c2 ll2 cc2 : Nat} [h : Bx w q 29 [.bool g1, .slice a1 l1 c1, .slice aa1 ll1 cc1, .bool g2, .slice a2 l2 c2, .slice aa2 ll2 cc2]] {v : Bool} (hv : Hid (small4 4 l1 ll1 l2 ll2 = v)) :
    Calls Tryz.prog 114 #[.int .i64 4, .slice (some ⟨q, 0, none⟩) 2 2] w fun e w' => e = .returned (.bool v) ∧ Below w.heap.size w w' := by
  have HV : Hid (decide (l1 ≤ 4 ∧ ll1 ≤ 4 ∧ l2 ≤ 4 ∧ ll2 ≤ 4) = v) := hv
  clear hv
  by_cases h0 : l1 ≤ 4
  · by_cases h1 : ll1 ≤ 4
    · by_cases h2 : l2 ≤ 4
      · by_cases h3 : ll2 ≤ 4
        · have f0 : (l1 : Int) ≤ 4 := by omega
          have f1 : (ll1 : Int) ≤ 4 := by omega
          have f2 : (l2 : Int) ≤ 4 := by omega
          have f3 : (ll2 : Int) ≤ 4 := by omega
          obtain rfl : true = v := by have := HV.out; rw [← this]; simp; omega
          clear HV
          go_enter Tryz.func114, Tryz.ntmps114
          go_wp2_with fail
          refine wp_loop_rounds 3 ?_
          rw [rounds_succ]
          go_wp2_with fail
          rw [rounds_succ]
          go_wp2_with fail
          rw [rounds_succ]
          go_wp2_with fail
          go_ret
          exact E.fin rfl
        · have f0 : (l1 : Int) ≤ 4 := by omega
          have f1 : (ll1 : Int) ≤ 4 := by omega
          have f2 : (l2 : Int) ≤ 4 := by omega
          have f3 : (4 : Int) < ll2 := by omega
          obtain rfl : false = v := by have := HV.out; rw [← this]; simp; omega
          clear HV
          go_enter Tryz.func114, Tryz.ntmps114
          go_wp2_with fail
          refine wp_loop_rounds 2 ?_
          rw [rounds_succ]
          go_wp2_with fail
          rw [rounds_succ]
          go_wp2_with fail
          go_ret
          exact E.fin rfl
      · have f0 : (l1 : Int) ≤ 4 := by omega
        have f1 : (ll1 : Int) ≤ 4 := by omega
        have f2 : (4 : Int) < l2 := by omega
        obtain rfl : false = v := by have := HV.out; rw [← this]; simp; omega
        clear HV
        go_enter Tryz.func114, Tryz.ntmps114
        go_wp2_with fail
        refine wp_loop_rounds 2 ?_
        rw [rounds_succ]
        go_wp2_with fail
        rw [rounds_succ]
        go_wp2_with fail
        go_ret
        exact E.fin rfl
    · have f0 : (l1 : Int) ≤ 4 := by omega
      have f1 : (4 : Int) < ll1 := by omega
      obtain rfl : false = v := by have := HV.out; rw [← this]; simp; omega
      clear HV
      go_enter Tryz.func114, Tryz.ntmps114
      go_wp2_with fail
      refine wp_loop_rounds 1 ?_
      rw [rounds_succ]
      go_wp2_with fail
      go_ret
      exact E.fin rfl
  · have f0 : (4 : Int) < l1 := by omega
    obtain rfl : false = v := by have := HV.out; rw [← this]; simp; omega
    clear HV
    go_enter Tryz.func114, Tryz.ntmps114
    go_wp2_with fail
    refine wp_loop_rounds 1 ?_
    rw [rounds_succ]
    go_wp2_with fail
    go_ret
    exact E.fin rfl

theorem smallPO {w w0 : World} {a : Option Addr} {n c : Nat} {V : List AV} {D : Nat → RD} [hs : SlO w (.slice a n c) V.length (rowA V) w0] [hp : PsL w V D] (hV : V.length ≤ 10) {v : Bool} (hv : Hid ((∀ i, i < V.length → smlP D 4 i) ↔ v = true)) :
    Calls Tryz.prog 50 #[.int .i64 4, .slice a n c] w (fun e w' => e = .returned (.bool v) ∧ Below w.heap.size w w') := by
  obtain rfl := hs.len
  have hl : Hid (∀ i, i < V.length → (small4 4 (av V i).lx (av V i).llx (av V i).ly (av V i).lly = true ↔ smlP D 4 i)) := Lib.hid (fun i hi => by
    have e1 := (hp.x i hi).len
    have e2 := (hp.xx i hi).len
    have e3 := (hp.y i hi).len
    have e4 := (hp.yy i hi).len
    unfold small4 smlP
    rw [decide_eq_true_iff, ← e1, ← e2, ← e3, ← e4])
  go_enter Tryz.func50, Tryz.ntmps50
  go_wp2_with fail
  go_loopw [9] (fun i wr => ∃ q : Nat, i = .int .i64 (q : Int) ∧ q ≤ V.length ∧ Hid (∀ i, i < q → smlP D 4 i) ∧ Kp w wr) (fun i _ => V.length - (intOf i).toNat)
  case atStart => exact ⟨0, rfl, by omega, Lib.hid (fun i h => absurd h (by omega)), inferInstance⟩
  case round =>
    obtain ⟨q, rfl, hq, hQ, i2⟩ := hrel
    have kw := Kp1.mk i2.out
    by_cases hlt : q < V.length
    · obtain ⟨g, off, rfl, hA⟩ := hs.form (by omega)
      have hlt' : (q : Int) < V.length := by omega
      have lq : LtN q V.length := ⟨hlt⟩
      have ew : IntKind.i64.wrap ((q : Int) + 1) = (q : Int) + 1 := wr_in (by omega) (by omega)
      by_cases hb : smlP D 4 q
      · have HX : Hid (small4 4 (av V q).lx (av V q).llx (av V q).ly (av V q).lly = true) := Lib.hid ((hl.out q hlt).2 hb)
        have HO : Hid (∀ i, i < q + 1 → smlP D 4 i) := Lib.hid (fun i hi => by
          by_cases e : i = q
          · subst e; exact hb
          · exact hQ.out i (by omega))
        clear hb
        go_wp2_with (first
          | (go_at_call 114; (with_reducible refine Calls.cE (smallQ4 HX) ?_); intros))
        go_roundw
        case rel => exact ⟨q + 1, by go_num, by omega, HO, inferInstance⟩
        case measure => simp [intOf]; omega
      · have HX : Hid (small4 4 (av V q).lx (av V q).llx (av V q).ly (av V q).lly = false) := Lib.hid (by
          rw [Bool.eq_false_iff]
          exact fun h => hb ((hl.out q hlt).1 h))
        have hv0 : v = false := by
          cases v
          · rfl
          · exact absurd (hv.out.2 rfl q hlt) hb
        subst hv0
        clear hb
        go_wp2_with (first
          | (go_at_call 114; (with_reducible refine Calls.cE (smallQ4 HX) ?_); intros))
        go_ret
        exact ⟨rfl, (inferInstance : Kp w _).out⟩
    · obtain rfl : q = V.length := by omega
      have hv1 : v = true := hv.out.1 hQ.out
      subst hv1
      go_wp2_with fail
      go_ret
      exact ⟨rfl, (inferInstance : Kp w _).out⟩
theorem ringKind2 {w w1 : World} {aX : Addr} [h : Snt w 4 aX w1] : Calls Tryz.prog 53 #[.int .i64 2] w (fun e w' => e = .returned (.iface 365 (.pointer (some aX))) ∧ Below w.heap.size w w') := by
  go_enter Tryz.func53, Tryz.ntmps53
  go_wp2
  go_ret
  exact ⟨rfl, (inferInstance : Kp w _).out⟩
theorem ringKind3 {w w1 : World} {aX : Addr} [h : Snt w 3 aX w1] : Calls Tryz.prog 53 #[.int .i64 3] w (fun e w' => e = .returned (.iface 365 (.pointer (some aX))) ∧ Below w.heap.size w w') := by
  go_enter Tryz.func53, Tryz.ntmps53
  go_wp2
  go_ret
  exact ⟨rfl, (inferInstance : Kp w _).out⟩
end Go.Proofs.YtdlnoeegboapkaaGreatDoor
