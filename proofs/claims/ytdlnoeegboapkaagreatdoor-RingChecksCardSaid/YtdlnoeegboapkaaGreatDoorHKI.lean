/-
  Texts of this claim, joined: Rc4.
-/
import Derived.Test.YtdlnoeegboapkaaGreatDoorHKC
import Derived.Test.YtdlnoeegboapkaaGreatDoorHKD
/- Package ring at rings that lie anywhere: errors; Check, Area and Edges of a valid ring. printed by a small program (mkrc4.py). -/
namespace Go.Proofs.YtdlnoeegboapkaaGreatDoor
open Go.RowKit
set_option maxRecDepth 100000
set_option maxHeartbeats 40000000
set_option synthInstance.maxSize 100000
set_option synthInstance.maxHeartbeats 1000000
set_option linter.unusedVariables false

theorem checkOkO {w w0 : World} {a : Option Addr} {n c : Nat} {V : List AV} {L : List (Rat × Rat)} {k : Nat} [hs : SlO w (.slice a n c) V.length (rowA V) w0] [hp : PsA w V L k] (b : k ≤ 19000) (hV : V.length ≤ 4096) (hR : RingOK L) :
    Calls Tryz.prog 23 #[.slice a n c] w (fun e w' => e = .returned .nilIface ∧ Below w.heap.size w w') := by
  go_enter Tryz.func23, Tryz.ntmps23
  go_wp2_with (first
    | (go_at_call 77; (with_reducible refine Calls.cPsFEr (ringOfOkO b hV hR) ?_); intros))
  go_ret
  exact E.fin rfl
theorem areaOkO {w w0 : World} {a : Option Addr} {n c : Nat} {V : List AV} {L : List (Rat × Rat)} {k : Nat} [hs : SlO w (.slice a n c) V.length (rowA V) w0] [hp : PsA w V L k] (b : k ≤ 4000) (hV : V.length ≤ 10) (hR : RingOK L) :
    Calls Tryz.prog 34 #[.slice a n c] w (AErRet w (areaL L) (40 * k + 200)) := by
  go_enter Tryz.func34, Tryz.ntmps34
  go_wp2_with (first
    | (go_at_call 77; (with_reducible refine Calls.cPsFEr (ringOfOkO (by omega) (by omega) hR) ?_); intro w1 _ a1 c1 V1 _ ip1; have hV1 : V1.length ≤ 10 := by rw [ip1.len, ← PsA.len (W := w) (V := V)]; exact hV)
    | (go_at_call 91; (with_reducible refine Calls.cF (geoAreaC (by omega) hV1) ?_); intros)
    | (go_at_call 92; (with_reducible refine Calls.cA (rApiC (by omega)) ?_); intros))
  refine ret_b9 rfl Tryz.underlying29 rfl (by kernel_rfl) rfl rfl rfl ?_
  exact AErRet.fin rfl (by omega)
theorem edgesOkO {w w0 : World} {a : Option Addr} {n c : Nat} {V : List AV} {L : List (Rat × Rat)} {k : Nat} [hs : SlO w (.slice a n c) V.length (rowA V) w0] [hp : PsA w V L k] (b : k ≤ 8) (hV : V.length ≤ 1000) (hR : RingOK L) :
    Calls Tryz.prog 33 #[.slice a n c] w (FsHEr w (edgesL L) (482 * k + 2194)) := by
  have hpos := hR.pos
  have hE := hR.edge
  go_enter Tryz.func33, Tryz.ntmps33
  go_wp2_with fail
  with_reducible refine Calls.cPsFEr (ringOfOkO (by omega) (by omega) hR) ?_
  intro w1 _ a1 c1 V1 _ ip1
  have hV1 : V1.length ≤ 1000 := by rw [ip1.len, ← PsA.len (W := w) (V := V)]; exact hV
  have hV2 : 0 < V1.length := by rw [ip1.len]; exact hpos
  go_wp2_with fail
  with_reducible refine Calls.cFsGRet (frsC (V := V1) (by omega) hV1 hV2 hE) ?_
  intro w2 _ a2 c2 V2 _ ip2
  have hV3 : V2.length ≤ 1000 := by rw [ip2.len, edgesL, List.length_map, List.length_range, ← ip1.len]; exact hV1
  go_wp2_with fail
  with_reducible refine Calls.cFsHRet (writeFrsC (V := V2) (by omega) (by omega)) ?_
  intro w3 _ a3 c3 V3 _ ip3
  go_wp2_with fail
  go_ret2
  exact FsHEr.fin (V := V3) rfl (by omega)
theorem checkErrO {w : World} {a : Option Addr} {n c : Nat} {aX : Addr} (hE : ∀ W, Kp w W → Calls Tryz.prog 77 #[.slice a n c] W (RErr W (.slice none 0 0) aX)) :
    Calls Tryz.prog 23 #[.slice a n c] w (OErr w aX) := by
  go_enter Tryz.func23, Tryz.ntmps23
  go_wp2_with (first
    | (go_at_call 77; (with_reducible refine Calls.cRErr (hE _ inferInstance) ?_); intros))
  go_ret
  exact OErr.fin
theorem edgesErrO {w : World} {a : Option Addr} {n c : Nat} {aX : Addr} (hE : ∀ W, Kp w W → Calls Tryz.prog 77 #[.slice a n c] W (RErr W (.slice none 0 0) aX)) :
    Calls Tryz.prog 33 #[.slice a n c] w (RErr w (.slice none 0 0) aX) := by
  go_enter Tryz.func33, Tryz.ntmps33
  go_wp2_with (first
    | (go_at_call 77; (with_reducible refine Calls.cRErr (hE _ inferInstance) ?_); intros))
  go_ret2
  exact RErr.fin
theorem canonErrO {w : World} {a : Option Addr} {n c : Nat} {aX : Addr} (hE : ∀ W, Kp w W → Calls Tryz.prog 77 #[.slice a n c] W (RErr W (.slice none 0 0) aX)) :
    Calls Tryz.prog 28 #[.slice a n c] w (RErr w (.slice none 0 0) aX) := by
  go_enter Tryz.func28, Tryz.ntmps28
  go_wp2_with (first
    | (go_at_call 77; (with_reducible refine Calls.cRErr (hE _ inferInstance) ?_); intros))
  go_ret2
  exact RErr.fin
theorem simpleErrO {w : World} {a : Option Addr} {n c : Nat} {aX : Addr} (hE : ∀ W, Kp w W → Calls Tryz.prog 77 #[.slice a n c] W (RErr W (.slice none 0 0) aX)) :
    Calls Tryz.prog 44 #[.slice a n c] w (RErr w (.bool false) aX) := by
  go_enter Tryz.func44, Tryz.ntmps44
  go_wp2_with (first
    | (go_at_call 77; (with_reducible refine Calls.cRErr (hE _ inferInstance) ?_); intros))
  go_ret2
  exact RErr.fin
theorem areaErrO {w : World} {a : Option Addr} {n c : Nat} {aX : Addr} (hE : ∀ W, Kp w W → Calls Tryz.prog 77 #[.slice a n c] W (RErr W (.slice none 0 0) aX)) :
    Calls Tryz.prog 34 #[.slice a n c] w (RErr w (.agg #[.bool false, .slice none 0 0, .slice none 0 0]) aX) := by
  go_enter Tryz.func34, Tryz.ntmps34
  go_wp2_with (first
    | (go_at_call 77; (with_reducible refine Calls.cRErr (hE _ inferInstance) ?_); intro w1 _ be sE hbe; have e1 : be ≠ w.heap.size := (fun e => by (have h1 := hbe.out; have h2 := (inferInstance : Bx w1 w.heap.size 29 [.bool false, .slice none 0 0, .slice none 0 0]).out; rw [e, h2] at h1; simp at h1)); have ne1 : NeN w.heap.size be := ⟨fun e => e1 e.symm⟩; have ne2 : NeN be w.heap.size := ⟨e1⟩))
  refine ret_b9 rfl Tryz.underlying29 rfl (by kernel_rfl) rfl rfl rfl ?_
  exact RErr.fin
end Go.Proofs.YtdlnoeegboapkaaGreatDoor
