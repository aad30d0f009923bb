/-
  The comparison of two lists of tokens.
  Printed by a small program (mklex7.py).
-/
import Derived.Test.YtlameeijogdckaaDoorTa
namespace Go.Proofs.YtlameeijogdckaaDoor
open Go.RowKit

set_option maxRecDepth 100000 in
set_option maxHeartbeats 4000000 in
set_option synthInstance.maxSize 100000 in
set_option synthInstance.maxHeartbeats 1000000 in
theorem same11C {w w1 w2 : World} {a b : Option Addr} {n c n' c' : Nat} {L : List Tk} [h1 : CT w (.slice a n c) L w1] [h2 : CT w (.slice b n' c') L w2] (hl : L.length ≤ 1000000) :
    Calls Tryd.prog 11 #[.slice a n c, .slice b n' c'] w fun e w' => e = .returned (.bool true) ∧ Below w.heap.size w w' := by
  obtain rfl := h1.len
  obtain rfl := h2.len
  have q : ((L.length : Int) == (L.length : Int)) = true := by simp
  go_enter Tryd.func11, Tryd.ntmps11
  go_wp2_with fail
  go_loopw [13] (fun i wr => ∃ k : Nat, i = .int .i64 (k : Int) ∧ k ≤ L.length ∧ Kp w wr) (fun i _ => L.length - (intOf i).toNat)
  case atStart => exact ⟨0, rfl, by omega, inferInstance⟩
  case round =>
    obtain ⟨k, rfl, hk, i1⟩ := hrel
    have kw := Kp1.mk i1.out
    by_cases hlt : k < L.length
    · have h0 : L ≠ [] := fun e => by rw [e] at hlt; simp at hlt
      obtain ⟨g, rfl, j1⟩ := TkAt.of h1 h0
      obtain ⟨g', rfl, j2⟩ := TkAt.of h2 h0
      have hlt' : (k : Int) < L.length := by omega
      have ew : IntKind.i64.wrap ((k : Int) + 1) = (k : Int) + 1 := wr_in (by omega) (by omega)
      go_wp2_with fail
      refine region_cls (by kernel_rfl) [] (fun hHeld => ?_)
      refine wpAnyH_take (i := 0) (v := ?z1) (by simp; rfl) (by kernel_rfl) (by kernel_rfl) (by kernel_rfl) (by exact fun _ _ _ h => h) (Or.inl ⟨by rfl, ?yz1⟩) hHeld ?_
      case yz1 => (intro wx hSw; have hSx := Ex1.mk hSw; go_simp; (try with_reducible rfl))
      try simp only [Act.put, List.setIfInBounds_toArray, List.set_cons_zero, List.set_cons_succ]
      refine wpAnyH_take (i := 1) (v := ?z2) (by simp; rfl) (by kernel_rfl) (by kernel_rfl) (by kernel_rfl) (by exact fun _ _ _ h => h) (Or.inl ⟨by rfl, ?yz2⟩) hHeld ?_
      case yz2 => (intro wx hSw; have hSx := Ex1.mk hSw; go_simp; (try with_reducible rfl))
      try simp only [Act.put, List.setIfInBounds_toArray, List.set_cons_zero, List.set_cons_succ]
      refine wpAnyH_take (i := 2) (v := ?z3) (by simp; rfl) (by kernel_rfl) (by kernel_rfl) (by kernel_rfl) (by exact fun _ _ _ h => h) (Or.inl ⟨by rfl, ?yz3⟩) hHeld ?_
      case yz3 => (intro wx hSw; have hSx := Ex1.mk hSw; go_simp; (try with_reducible rfl))
      try simp only [Act.put, List.setIfInBounds_toArray, List.set_cons_zero, List.set_cons_succ]
      refine wpAnyH_take (i := 3) (v := ?z4) (by simp; rfl) (by kernel_rfl) (by kernel_rfl) (by kernel_rfl) (by exact fun _ _ _ h => h) (Or.inl ⟨by rfl, ?yz4⟩) hHeld ?_
      case yz4 => (intro wx hSw; have hSx := Ex1.mk hSw; go_simp; (try with_reducible rfl))
      try simp only [Act.put, List.setIfInBounds_toArray, List.set_cons_zero, List.set_cons_succ]
      refine wpAnyH_take (i := 4) (v := ?z5) (by simp; rfl) (by kernel_rfl) (by kernel_rfl) (by kernel_rfl) (by exact fun _ _ _ h => h) (Or.inl ⟨by rfl, ?yz5⟩) hHeld ?_
      case yz5 => (intro wx hSw; have hSx := Ex1.mk hSw; go_simp; (try with_reducible rfl))
      try simp only [Act.put, List.setIfInBounds_toArray, List.set_cons_zero, List.set_cons_succ]
      refine wpAnyH_take (i := 5) (v := ?z6) (by simp; rfl) (by kernel_rfl) (by kernel_rfl) (by kernel_rfl) (by exact fun _ _ _ h => h) (Or.inl ⟨by rfl, ?yz6⟩) hHeld ?_
      case yz6 => (intro wx hSw; have hSx := Ex1.mk hSw; go_simp; (try with_reducible rfl))
      try simp only [Act.put, List.setIfInBounds_toArray, List.set_cons_zero, List.set_cons_succ]
      refine wpAnyH_take (i := 6) (v := ?z7) (by simp; rfl) (by kernel_rfl) (by kernel_rfl) (by kernel_rfl) (by exact fun _ _ _ h => h) (Or.inl ⟨by rfl, ?yz7⟩) hHeld ?_
      case yz7 => (intro wx hSw; have hSx := Ex1.mk hSw; go_simp; (try with_reducible rfl))
      try simp only [Act.put, List.setIfInBounds_toArray, List.set_cons_zero, List.set_cons_succ]
      refine wpAnyH_take (i := 7) (v := ?z8) (by simp; rfl) (by kernel_rfl) (by kernel_rfl) (by kernel_rfl) (by exact fun _ _ _ h => h) (Or.inl ⟨by rfl, ?yz8⟩) hHeld ?_
      case yz8 => (intro wx hSw; have hSx := Ex1.mk hSw; go_simp; (try with_reducible rfl))
      try simp only [Act.put, List.setIfInBounds_toArray, List.set_cons_zero, List.set_cons_succ]
      refine wpAnyH_take (i := 8) (v := ?z9) (by simp; rfl) (by kernel_rfl) (by kernel_rfl) (by kernel_rfl) (by exact fun _ _ _ h => h) (Or.inl ⟨by rfl, ?yz9⟩) hHeld ?_
      case yz9 => (intro wx hSw; have hSx := Ex1.mk hSw; go_simp; (try with_reducible rfl))
      try simp only [Act.put, List.setIfInBounds_toArray, List.set_cons_zero, List.set_cons_succ]
      refine wpAnyH_done (by kernel_rfl) ?_ _
      clear hHeld
      go_wp2_with fail
      go_roundw
      case rel => exact ⟨k + 1, by go_num, by omega, inferInstance⟩
      case measure => simp [intOf]; omega
    · have hge : (L.length : Int) ≤ k := by omega
      go_wp2_with fail
      go_ret
      exact E.fin rfl
end Go.Proofs.YtlameeijogdckaaDoor
