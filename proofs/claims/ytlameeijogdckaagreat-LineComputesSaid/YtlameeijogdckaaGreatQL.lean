/-
  Texts of this claim, joined: QLine, QLnp, QLnq, QLn2.
-/
import Derived.Test.YtlameeijogdckaaGreatFrac3
import Derived.Test.YtlameeijogdckaaGreatQA
import Derived.Test.YtlameeijogdckaaGreatQO
import Derived.Test.YtlameeijogdckaaGreatQN
import Derived.Deep.CutRange
/- Lines of package geo: contracts. printed by a small program (mkline.py). -/
namespace Go.Proofs.YtlameeijogdckaaGreat
open Go.RowKit
set_option linter.unusedVariables false

set_option maxRecDepth 100000 in
set_option maxHeartbeats 4000000 in
set_option synthInstance.maxSize 100000 in
set_option synthInstance.maxHeartbeats 1000000 in
theorem turnC {w : World} {n1x : Int} {d1x : Int} {p1x : Option Addr} {n1y : Int} {d1y : Int} {p1y : Option Addr} {x y : Rat} {k1x k1y : Nat} [h1x : CF w (.agg #[.int .i64 n1x, .int .i64 d1x, .pointer p1x]) x k1x] [h1y : CF w (.agg #[.int .i64 n1y, .int .i64 d1y, .pointer p1y]) y k1y] (b : k1x ≤ 400000 ∧ k1y ≤ 400000) :
    Calls Tryz.prog 183 #[.agg #[.int .i64 n1x, .int .i64 d1x, .pointer p1x, .int .i64 n1y, .int .i64 d1y, .pointer p1y]] w (CPFRet w (-y) (x) (k1x + k1y)) := by
  go_enter Tryz.func183, Tryz.ntmps183
  go_wp2_with fail
  refine region_cls (by kernel_rfl) [w.heap.size + 1] (fun hHeld => ?_)
  refine wpAnyH_take (i := 0) (v := ?z188) (by simp; rfl) (by kernel_rfl) (by kernel_rfl) (by kernel_rfl) (by exact fun _ _ _ h => h) (Or.inl ⟨by rfl, ?yz188⟩) hHeld ?_
  case yz188 => (intro wx hSw; have hSx := Ex1.mk hSw; go_simp; (try with_reducible rfl))
  try simp only [Act.put, List.setIfInBounds_toArray, List.set_cons_zero, List.set_cons_succ]
  refine wpAnyH_take (i := 1) (v := ?z189) (by simp; rfl) (by kernel_rfl) (by kernel_rfl) (by kernel_rfl) (by exact fun _ _ _ h => h) (Or.inl ⟨by rfl, ?yz189⟩) hHeld ?_
  case yz189 => (intro wx hSw; have hSx := Ex1.mk hSw; go_simp; (try with_reducible rfl))
  try simp only [Act.put, List.setIfInBounds_toArray, List.set_cons_zero, List.set_cons_succ]
  refine wpAnyH_take (i := 3) (v := ?z190) (by simp; rfl) (by kernel_rfl) (by kernel_rfl) (by kernel_rfl) (by exact fun _ _ _ h => h) (Or.inl ⟨by rfl, ?yz190⟩) hHeld ?_
  case yz190 => (intro wx hSw; have hSx := Ex1.mk hSw; go_simp; (try with_reducible rfl))
  try simp only [Act.put, List.setIfInBounds_toArray, List.set_cons_zero, List.set_cons_succ]
  refine wpAnyH_take (i := 4) (v := ?z191) (by simp; rfl) (by kernel_rfl) (by kernel_rfl) (by kernel_rfl) (by exact fun _ _ _ h => h) (Or.inl ⟨by rfl, ?yz191⟩) hHeld ?_
  case yz191 => (intro wx hSw; have hSx := Ex1.mk hSw; go_simp; (try with_reducible rfl))
  try simp only [Act.put, List.setIfInBounds_toArray, List.set_cons_zero, List.set_cons_succ]
  refine wpAnyH_ready (rs := [2]) (by kernel_rfl) (by simp) ?_
  refine AllReadyH.cons (by simp; rfl) (fun K hK => ?_) AllReadyH.nil
  go_simp
  (go_at_call 185; (with_reducible refine Calls.cF (rNegC (by omega)) ?_); intros)
  refine hK.out _ _ inferInstance ?_
  clear hHeld hK K
  intro hHeld
  try simp only [Act.put, List.setIfInBounds_toArray, List.set_cons_zero, List.set_cons_succ]
  refine wpAnyH_take (i := 5) (v := ?z192) (by simp; rfl) (by kernel_rfl) (by kernel_rfl) (by kernel_rfl) (by exact fun _ _ _ h => h) (Or.inl ⟨by rfl, ?yz192⟩) hHeld ?_
  case yz192 => (intro wx hSw; have hSx := Ex1.mk hSw; go_simp; (try with_reducible rfl))
  try simp only [Act.put, List.setIfInBounds_toArray, List.set_cons_zero, List.set_cons_succ]
  refine wpAnyH_ready (rs := [6]) (by kernel_rfl) (by simp) ?_
  refine AllReadyH.cons (by simp; rfl) (fun K hK => ?_) AllReadyH.nil
  go_simp
  refine hK.out _ _ inferInstance ?_
  clear hHeld hK K
  intro hHeld
  try simp only [Act.put, List.setIfInBounds_toArray, List.set_cons_zero, List.set_cons_succ]
  refine wpAnyH_done (by kernel_rfl) ?_ _
  clear hHeld
  go_wp2
  refine ret_bx rfl Tryz.underlying117 rfl (by kernel_rfl) rfl rfl rfl ?_
  exact CPFRet.fin rfl (by omega) rfl (by omega)

set_option maxRecDepth 100000 in
set_option maxHeartbeats 4000000 in
set_option synthInstance.maxSize 100000 in
set_option synthInstance.maxHeartbeats 1000000 in
theorem lnNormalC {w : World} {n1x : Int} {d1x : Int} {p1x : Option Addr} {n1y : Int} {d1y : Int} {p1y : Option Addr} {n1z : Int} {d1z : Int} {p1z : Option Addr} {la lb lc : Rat} {k1x k1y k1z : Nat} [h1x : CF w (.agg #[.int .i64 n1x, .int .i64 d1x, .pointer p1x]) la k1x] [h1y : CF w (.agg #[.int .i64 n1y, .int .i64 d1y, .pointer p1y]) lb k1y] [h1z : CF w (.agg #[.int .i64 n1z, .int .i64 d1z, .pointer p1z]) lc k1z] (b : k1x ≤ 400000 ∧ k1y ≤ 400000 ∧ k1z ≤ 400000) :
    Calls Tryz.prog 157 #[.agg #[.int .i64 n1x, .int .i64 d1x, .pointer p1x, .int .i64 n1y, .int .i64 d1y, .pointer p1y, .int .i64 n1z, .int .i64 d1z, .pointer p1z]] w (CPFRet w (la) (lb) (max k1x k1y)) := by
  go_enter Tryz.func157, Tryz.ntmps157
  go_wp2
  refine ret_bx rfl Tryz.underlying117 rfl (by kernel_rfl) rfl rfl rfl ?_
  exact CPFRet.fin rfl (by omega) rfl (by omega)

set_option maxRecDepth 100000 in
set_option maxHeartbeats 4000000 in
set_option synthInstance.maxSize 100000 in
set_option synthInstance.maxHeartbeats 1000000 in
theorem lnDirC {w : World} {n1x : Int} {d1x : Int} {p1x : Option Addr} {n1y : Int} {d1y : Int} {p1y : Option Addr} {n1z : Int} {d1z : Int} {p1z : Option Addr} {la lb lc : Rat} {k1x k1y k1z : Nat} [h1x : CF w (.agg #[.int .i64 n1x, .int .i64 d1x, .pointer p1x]) la k1x] [h1y : CF w (.agg #[.int .i64 n1y, .int .i64 d1y, .pointer p1y]) lb k1y] [h1z : CF w (.agg #[.int .i64 n1z, .int .i64 d1z, .pointer p1z]) lc k1z] (b : k1x ≤ 400000 ∧ k1y ≤ 400000 ∧ k1z ≤ 400000) :
    Calls Tryz.prog 141 #[.agg #[.int .i64 n1x, .int .i64 d1x, .pointer p1x, .int .i64 n1y, .int .i64 d1y, .pointer p1y, .int .i64 n1z, .int .i64 d1z, .pointer p1z]] w (CPFRet w (lb) (-la) (max k1x k1y)) := by
  go_enter Tryz.func141, Tryz.ntmps141
  go_wp2_with fail
  refine region_cls (by kernel_rfl) [w.heap.size + 1] (fun hHeld => ?_)
  refine wpAnyH_take (i := 0) (v := ?z193) (by simp; rfl) (by kernel_rfl) (by kernel_rfl) (by kernel_rfl) (by exact fun _ _ _ h => h) (Or.inl ⟨by rfl, ?yz193⟩) hHeld ?_
  case yz193 => (intro wx hSw; have hSx := Ex1.mk hSw; go_simp; (try with_reducible rfl))
  try simp only [Act.put, List.setIfInBounds_toArray, List.set_cons_zero, List.set_cons_succ]
  refine wpAnyH_take (i := 1) (v := ?z194) (by simp; rfl) (by kernel_rfl) (by kernel_rfl) (by kernel_rfl) (by exact fun _ _ _ h => h) (Or.inl ⟨by rfl, ?yz194⟩) hHeld ?_
  case yz194 => (intro wx hSw; have hSx := Ex1.mk hSw; go_simp; (try with_reducible rfl))
  try simp only [Act.put, List.setIfInBounds_toArray, List.set_cons_zero, List.set_cons_succ]
  refine wpAnyH_take (i := 2) (v := ?z195) (by simp; rfl) (by kernel_rfl) (by kernel_rfl) (by kernel_rfl) (by exact fun _ _ _ h => h) (Or.inl ⟨by rfl, ?yz195⟩) hHeld ?_
  case yz195 => (intro wx hSw; have hSx := Ex1.mk hSw; go_simp; (try with_reducible rfl))
  try simp only [Act.put, List.setIfInBounds_toArray, List.set_cons_zero, List.set_cons_succ]
  refine wpAnyH_take (i := 3) (v := ?z196) (by simp; rfl) (by kernel_rfl) (by kernel_rfl) (by kernel_rfl) (by exact fun _ _ _ h => h) (Or.inl ⟨by rfl, ?yz196⟩) hHeld ?_
  case yz196 => (intro wx hSw; have hSx := Ex1.mk hSw; go_simp; (try with_reducible rfl))
  try simp only [Act.put, List.setIfInBounds_toArray, List.set_cons_zero, List.set_cons_succ]
  refine wpAnyH_ready (rs := [4]) (by kernel_rfl) (by simp) ?_
  refine AllReadyH.cons (by simp; rfl) (fun K hK => ?_) AllReadyH.nil
  go_simp
  (go_at_call 185; (with_reducible refine Calls.cF (rNegC (by omega)) ?_); intros)
  refine hK.out _ _ inferInstance ?_
  clear hHeld hK K
  intro hHeld
  try simp only [Act.put, List.setIfInBounds_toArray, List.set_cons_zero, List.set_cons_succ]
  refine wpAnyH_take (i := 5) (v := ?z197) (by simp; rfl) (by kernel_rfl) (by kernel_rfl) (by kernel_rfl) (by exact fun _ _ _ h => h) (Or.inl ⟨by rfl, ?yz197⟩) hHeld ?_
  case yz197 => (intro wx hSw; have hSx := Ex1.mk hSw; go_simp; (try with_reducible rfl))
  try simp only [Act.put, List.setIfInBounds_toArray, List.set_cons_zero, List.set_cons_succ]
  refine wpAnyH_ready (rs := [6]) (by kernel_rfl) (by simp) ?_
  refine AllReadyH.cons (by simp; rfl) (fun K hK => ?_) AllReadyH.nil
  go_simp
  refine hK.out _ _ inferInstance ?_
  clear hHeld hK K
  intro hHeld
  try simp only [Act.put, List.setIfInBounds_toArray, List.set_cons_zero, List.set_cons_succ]
  refine wpAnyH_done (by kernel_rfl) ?_ _
  clear hHeld
  go_wp2
  refine ret_bx rfl Tryz.underlying117 rfl (by kernel_rfl) rfl rfl rfl ?_
  exact CPFRet.fin rfl (by omega) rfl (by omega)

set_option maxRecDepth 100000 in
set_option maxHeartbeats 4000000 in
set_option synthInstance.maxSize 100000 in
set_option synthInstance.maxHeartbeats 1000000 in
theorem lnValueC {w : World} {n1x : Int} {d1x : Int} {p1x : Option Addr} {n1y : Int} {d1y : Int} {p1y : Option Addr} {n1z : Int} {d1z : Int} {p1z : Option Addr} {la lb lc : Rat} {n2x : Int} {d2x : Int} {p2x : Option Addr} {n2y : Int} {d2y : Int} {p2y : Option Addr} {x y : Rat} {k1x k1y k1z k2x k2y : Nat} [h1x : CF w (.agg #[.int .i64 n1x, .int .i64 d1x, .pointer p1x]) la k1x] [h1y : CF w (.agg #[.int .i64 n1y, .int .i64 d1y, .pointer p1y]) lb k1y] [h1z : CF w (.agg #[.int .i64 n1z, .int .i64 d1z, .pointer p1z]) lc k1z] [h2x : CF w (.agg #[.int .i64 n2x, .int .i64 d2x, .pointer p2x]) x k2x] [h2y : CF w (.agg #[.int .i64 n2y, .int .i64 d2y, .pointer p2y]) y k2y] (b : k1x ≤ 10000 ∧ k1y ≤ 10000 ∧ k1z ≤ 10000 ∧ k2x ≤ 10000 ∧ k2y ≤ 10000) :
    Calls Tryz.prog 134 #[.agg #[.int .i64 n1x, .int .i64 d1x, .pointer p1x, .int .i64 n1y, .int .i64 d1y, .pointer p1y, .int .i64 n1z, .int .i64 d1z, .pointer p1z], .agg #[.int .i64 n2x, .int .i64 d2x, .pointer p2x, .int .i64 n2y, .int .i64 d2y, .pointer p2y]] w (CFRet w (la * x + lb * y + lc) (2 * (max k1x k1y) + k1z + k2x + k2y + 10)) := by
  go_enter Tryz.func134, Tryz.ntmps134
  go_wp2_with fail
  refine region_cls (by kernel_rfl) [w.heap.size + 1 + 1] (fun hHeld => ?_)
  refine wpAnyH_take (i := 0) (v := ?z205) (by simp; rfl) (by kernel_rfl) (by kernel_rfl) (by kernel_rfl) (by exact fun _ _ _ h => h) (Or.inl ⟨by rfl, ?yz205⟩) hHeld ?_
  case yz205 => (intro wx hSw; have hSx := Ex1.mk hSw; go_simp; (try with_reducible rfl))
  try simp only [Act.put, List.setIfInBounds_toArray, List.set_cons_zero, List.set_cons_succ]
  refine wpAnyH_take (i := 2) (v := ?z206) (by simp; rfl) (by kernel_rfl) (by kernel_rfl) (by kernel_rfl) (by exact fun _ _ _ h => h) (Or.inl ⟨by rfl, ?yz206⟩) hHeld ?_
  case yz206 => (intro wx hSw; have hSx := Ex1.mk hSw; go_simp; (try with_reducible rfl))
  try simp only [Act.put, List.setIfInBounds_toArray, List.set_cons_zero, List.set_cons_succ]
  refine wpAnyH_take (i := 4) (v := ?z207) (by simp; rfl) (by kernel_rfl) (by kernel_rfl) (by kernel_rfl) (by exact fun _ _ _ h => h) (Or.inl ⟨by rfl, ?yz207⟩) hHeld ?_
  case yz207 => (intro wx hSw; have hSx := Ex1.mk hSw; go_simp; (try with_reducible rfl))
  try simp only [Act.put, List.setIfInBounds_toArray, List.set_cons_zero, List.set_cons_succ]
  refine wpAnyH_take (i := 5) (v := ?z208) (by simp; rfl) (by kernel_rfl) (by kernel_rfl) (by kernel_rfl) (by exact fun _ _ _ h => h) (Or.inl ⟨by rfl, ?yz208⟩) hHeld ?_
  case yz208 => (intro wx hSw; have hSx := Ex1.mk hSw; go_simp; (try with_reducible rfl))
  try simp only [Act.put, List.setIfInBounds_toArray, List.set_cons_zero, List.set_cons_succ]
  refine wpAnyH_ready (rs := [1]) (by kernel_rfl) (by simp) ?_
  refine AllReadyH.cons (by simp; rfl) (fun K hK => ?_) AllReadyH.nil
  go_simp
  (go_at_call 157; (with_reducible refine Calls.cPF (lnNormalC (by omega)) ?_); intros)
  refine hK.out _ _ inferInstance ?_
  clear hHeld hK K
  intro hHeld
  try simp only [Act.put, List.setIfInBounds_toArray, List.set_cons_zero, List.set_cons_succ]
  refine wpAnyH_ready (rs := [3]) (by kernel_rfl) (by simp) ?_
  refine AllReadyH.cons (by simp; rfl) (fun K hK => ?_) AllReadyH.nil
  go_simp
  (go_at_call 184; (with_reducible refine Calls.cF (gDotC (by omega)) ?_); intros)
  refine hK.out _ _ inferInstance ?_
  clear hHeld hK K
  intro hHeld
  try simp only [Act.put, List.setIfInBounds_toArray, List.set_cons_zero, List.set_cons_succ]
  refine wpAnyH_ready (rs := [6]) (by kernel_rfl) (by simp) ?_
  refine AllReadyH.cons (by simp; rfl) (fun K hK => ?_) AllReadyH.nil
  go_simp
  (go_at_call 195; (with_reducible refine Calls.cF (rAddC (by omega)) ?_); intros)
  refine hK.out _ _ inferInstance ?_
  clear hHeld hK K
  intro hHeld
  try simp only [Act.put, List.setIfInBounds_toArray, List.set_cons_zero, List.set_cons_succ]
  refine wpAnyH_ready (rs := [7]) (by kernel_rfl) (by simp) ?_
  refine AllReadyH.cons (by simp; rfl) (fun K hK => ?_) AllReadyH.nil
  go_simp
  refine hK.out _ _ inferInstance ?_
  clear hHeld hK K
  intro hHeld
  try simp only [Act.put, List.setIfInBounds_toArray, List.set_cons_zero, List.set_cons_succ]
  refine wpAnyH_done (by kernel_rfl) ?_ _
  clear hHeld
  go_wp2
  refine ret_bx rfl Tryz.underlying115 rfl (by kernel_rfl) rfl rfl rfl ?_
  exact CFRet.fin rfl (by omega)

set_option maxRecDepth 100000 in
set_option maxHeartbeats 4000000 in
set_option synthInstance.maxSize 100000 in
set_option synthInstance.maxHeartbeats 1000000 in
theorem lnSideC {w : World} {n1x : Int} {d1x : Int} {p1x : Option Addr} {n1y : Int} {d1y : Int} {p1y : Option Addr} {n1z : Int} {d1z : Int} {p1z : Option Addr} {la lb lc : Rat} {n2x : Int} {d2x : Int} {p2x : Option Addr} {n2y : Int} {d2y : Int} {p2y : Option Addr} {x y : Rat} {k1x k1y k1z k2x k2y : Nat} [h1x : CF w (.agg #[.int .i64 n1x, .int .i64 d1x, .pointer p1x]) la k1x] [h1y : CF w (.agg #[.int .i64 n1y, .int .i64 d1y, .pointer p1y]) lb k1y] [h1z : CF w (.agg #[.int .i64 n1z, .int .i64 d1z, .pointer p1z]) lc k1z] [h2x : CF w (.agg #[.int .i64 n2x, .int .i64 d2x, .pointer p2x]) x k2x] [h2y : CF w (.agg #[.int .i64 n2y, .int .i64 d2y, .pointer p2y]) y k2y] (b : k1x ≤ 10000 ∧ k1y ≤ 10000 ∧ k1z ≤ 10000 ∧ k2x ≤ 10000 ∧ k2y ≤ 10000) :
    Calls Tryz.prog 138 #[.agg #[.int .i64 n1x, .int .i64 d1x, .pointer p1x, .int .i64 n1y, .int .i64 d1y, .pointer p1y, .int .i64 n1z, .int .i64 d1z, .pointer p1z], .agg #[.int .i64 n2x, .int .i64 d2x, .pointer p2x, .int .i64 n2y, .int .i64 d2y, .pointer p2y]] w (fun e w' => e = .returned (.int .i64 (isgn (la * x + lb * y + lc).num)) ∧ Below w.heap.size w w') := by
  go_enter Tryz.func138, Tryz.ntmps138
  go_wp2_with (first
    | (go_at_call 134; (with_reducible refine Calls.cF (lnValueC (by omega)) ?_); intros)
    | (go_at_call 189; (with_reducible refine Calls.cE (rSignC (by omega)) ?_); intros))
  go_ret
  exact E.fin rfl

set_option maxRecDepth 100000 in
set_option maxHeartbeats 4000000 in
set_option synthInstance.maxSize 100000 in
set_option synthInstance.maxHeartbeats 1000000 in
theorem lnBaseC {w : World} {n1x : Int} {d1x : Int} {p1x : Option Addr} {n1y : Int} {d1y : Int} {p1y : Option Addr} {n1z : Int} {d1z : Int} {p1z : Option Addr} {la lb lc : Rat} {k1x k1y k1z : Nat} [h1x : CF w (.agg #[.int .i64 n1x, .int .i64 d1x, .pointer p1x]) la k1x] [h1y : CF w (.agg #[.int .i64 n1y, .int .i64 d1y, .pointer p1y]) lb k1y] [h1z : CF w (.agg #[.int .i64 n1z, .int .i64 d1z, .pointer p1z]) lc k1z] (b : k1x ≤ 9000 ∧ k1y ≤ 9000 ∧ k1z ≤ 9000) :
    Calls Tryz.prog 143 #[.agg #[.int .i64 n1x, .int .i64 d1x, .pointer p1x, .int .i64 n1y, .int .i64 d1y, .pointer p1y, .int .i64 n1z, .int .i64 d1z, .pointer p1z]] w (CPFRet w (la * (-lc / (la * la + lb * lb))) (lb * (-lc / (la * la + lb * lb))) (5 * (max k1x k1y) + k1z + 20)) := by
  go_enter Tryz.func143, Tryz.ntmps143
  go_wp2_with (first
    | (go_at_call 157; (with_reducible refine Calls.cPF (lnNormalC (by omega)) ?_); intros))
  refine region_cls (by kernel_rfl) [w.heap.size + 1] (fun hHeld => ?_)
  refine wpAnyH_take (i := 0) (v := ?z209) (by simp; rfl) (by kernel_rfl) (by kernel_rfl) (by kernel_rfl) (by exact fun _ _ _ h => h) (Or.inl ⟨by rfl, ?yz209⟩) hHeld ?_
  case yz209 => (intro wx hSw; have hSx := Ex1.mk hSw; go_simp; (try with_reducible rfl))
  try simp only [Act.put, List.setIfInBounds_toArray, List.set_cons_zero, List.set_cons_succ]
  refine wpAnyH_take (i := 1) (v := ?z210) (by simp; rfl) (by kernel_rfl) (by kernel_rfl) (by kernel_rfl) (by exact fun _ _ _ h => h) (Or.inl ⟨by rfl, ?yz210⟩) hHeld ?_
  case yz210 => (intro wx hSw; have hSx := Ex1.mk hSw; go_simp; (try with_reducible rfl))
  try simp only [Act.put, List.setIfInBounds_toArray, List.set_cons_zero, List.set_cons_succ]
  refine wpAnyH_take (i := 2) (v := ?z211) (by simp; rfl) (by kernel_rfl) (by kernel_rfl) (by kernel_rfl) (by exact fun _ _ _ h => h) (Or.inl ⟨by rfl, ?yz211⟩) hHeld ?_
  case yz211 => (intro wx hSw; have hSx := Ex1.mk hSw; go_simp; (try with_reducible rfl))
  try simp only [Act.put, List.setIfInBounds_toArray, List.set_cons_zero, List.set_cons_succ]
  refine wpAnyH_take (i := 4) (v := ?z212) (by simp; rfl) (by kernel_rfl) (by kernel_rfl) (by kernel_rfl) (by exact fun _ _ _ h => h) (Or.inl ⟨by rfl, ?yz212⟩) hHeld ?_
  case yz212 => (intro wx hSw; have hSx := Ex1.mk hSw; go_simp; (try with_reducible rfl))
  try simp only [Act.put, List.setIfInBounds_toArray, List.set_cons_zero, List.set_cons_succ]
  refine wpAnyH_take (i := 5) (v := ?z213) (by simp; rfl) (by kernel_rfl) (by kernel_rfl) (by kernel_rfl) (by exact fun _ _ _ h => h) (Or.inl ⟨by rfl, ?yz213⟩) hHeld ?_
  case yz213 => (intro wx hSw; have hSx := Ex1.mk hSw; go_simp; (try with_reducible rfl))
  try simp only [Act.put, List.setIfInBounds_toArray, List.set_cons_zero, List.set_cons_succ]
  refine wpAnyH_ready (rs := [3]) (by kernel_rfl) (by simp) ?_
  refine AllReadyH.cons (by simp; rfl) (fun K hK => ?_) AllReadyH.nil
  go_simp
  (go_at_call 185; (with_reducible refine Calls.cF (rNegC (by omega)) ?_); intros)
  refine hK.out _ _ inferInstance ?_
  clear hHeld hK K
  intro hHeld
  try simp only [Act.put, List.setIfInBounds_toArray, List.set_cons_zero, List.set_cons_succ]
  refine wpAnyH_ready (rs := [6]) (by kernel_rfl) (by simp) ?_
  refine AllReadyH.cons (by simp; rfl) (fun K hK => ?_) AllReadyH.nil
  go_simp
  (go_at_call 184; (with_reducible refine Calls.cF (gDotC (by omega)) ?_); intros)
  refine hK.out _ _ inferInstance ?_
  clear hHeld hK K
  intro hHeld
  try simp only [Act.put, List.setIfInBounds_toArray, List.set_cons_zero, List.set_cons_succ]
  refine wpAnyH_ready (rs := [7]) (by kernel_rfl) (by simp) ?_
  refine AllReadyH.cons (by simp; rfl) (fun K hK => ?_) AllReadyH.nil
  go_simp
  (go_at_call 196; (with_reducible refine Calls.cF (rQuoC (by omega)) ?_); intros)
  refine hK.out _ _ inferInstance ?_
  clear hHeld hK K
  intro hHeld
  try simp only [Act.put, List.setIfInBounds_toArray, List.set_cons_zero, List.set_cons_succ]
  refine wpAnyH_ready (rs := [8]) (by kernel_rfl) (by simp) ?_
  refine AllReadyH.cons (by simp; rfl) (fun K hK => ?_) AllReadyH.nil
  go_simp
  (go_at_call 112; (with_reducible refine Calls.cPF (ptScaleC (by omega)) ?_); intros)
  refine hK.out _ _ inferInstance ?_
  clear hHeld hK K
  intro hHeld
  try simp only [Act.put, List.setIfInBounds_toArray, List.set_cons_zero, List.set_cons_succ]
  refine wpAnyH_ready (rs := [9]) (by kernel_rfl) (by simp) ?_
  refine AllReadyH.cons (by simp; rfl) (fun K hK => ?_) AllReadyH.nil
  go_simp
  refine hK.out _ _ inferInstance ?_
  clear hHeld hK K
  intro hHeld
  try simp only [Act.put, List.setIfInBounds_toArray, List.set_cons_zero, List.set_cons_succ]
  refine wpAnyH_done (by kernel_rfl) ?_ _
  clear hHeld
  go_wp2
  refine ret_bx rfl Tryz.underlying117 rfl (by kernel_rfl) rfl rfl rfl ?_
  exact CPFRet.fin rfl (by omega) rfl (by omega)

set_option maxRecDepth 100000 in
set_option maxHeartbeats 4000000 in
set_option synthInstance.maxSize 100000 in
set_option synthInstance.maxHeartbeats 1000000 in
theorem lnAtC {w : World} {n1x : Int} {d1x : Int} {p1x : Option Addr} {n1y : Int} {d1y : Int} {p1y : Option Addr} {n1z : Int} {d1z : Int} {p1z : Option Addr} {la lb lc : Rat} {n2 : Int} {d2 : Int} {p2 : Option Addr} {t : Rat} {k1x k1y k1z k2 : Nat} [h1x : CF w (.agg #[.int .i64 n1x, .int .i64 d1x, .pointer p1x]) la k1x] [h1y : CF w (.agg #[.int .i64 n1y, .int .i64 d1y, .pointer p1y]) lb k1y] [h1z : CF w (.agg #[.int .i64 n1z, .int .i64 d1z, .pointer p1z]) lc k1z] [h2 : CF w (.agg #[.int .i64 n2, .int .i64 d2, .pointer p2]) t k2] (b : k1x ≤ 8000 ∧ k1y ≤ 8000 ∧ k1z ≤ 8000 ∧ k2 ≤ 8000) :
    Calls Tryz.prog 146 #[.agg #[.int .i64 n1x, .int .i64 d1x, .pointer p1x, .int .i64 n1y, .int .i64 d1y, .pointer p1y, .int .i64 n1z, .int .i64 d1z, .pointer p1z], .agg #[.int .i64 n2, .int .i64 d2, .pointer p2]] w (CPFRet w (la * (-lc / (la * la + lb * lb)) + lb * t) (lb * (-lc / (la * la + lb * lb)) + -la * t) (6 * (max k1x k1y) + k1z + k2 + 30)) := by
  go_enter Tryz.func146, Tryz.ntmps146
  go_wp2_with fail
  refine region_cls (by kernel_rfl) [w.heap.size + 1 + 1] (fun hHeld => ?_)
  refine wpAnyH_take (i := 0) (v := ?z214) (by simp; rfl) (by kernel_rfl) (by kernel_rfl) (by kernel_rfl) (by exact fun _ _ _ h => h) (Or.inl ⟨by rfl, ?yz214⟩) hHeld ?_
  case yz214 => (intro wx hSw; have hSx := Ex1.mk hSw; go_simp; (try with_reducible rfl))
  try simp only [Act.put, List.setIfInBounds_toArray, List.set_cons_zero, List.set_cons_succ]
  refine wpAnyH_take (i := 2) (v := ?z215) (by simp; rfl) (by kernel_rfl) (by kernel_rfl) (by kernel_rfl) (by exact fun _ _ _ h => h) (Or.inl ⟨by rfl, ?yz215⟩) hHeld ?_
  case yz215 => (intro wx hSw; have hSx := Ex1.mk hSw; go_simp; (try with_reducible rfl))
  try simp only [Act.put, List.setIfInBounds_toArray, List.set_cons_zero, List.set_cons_succ]
  refine wpAnyH_take (i := 4) (v := ?z216) (by simp; rfl) (by kernel_rfl) (by kernel_rfl) (by kernel_rfl) (by exact fun _ _ _ h => h) (Or.inl ⟨by rfl, ?yz216⟩) hHeld ?_
  case yz216 => (intro wx hSw; have hSx := Ex1.mk hSw; go_simp; (try with_reducible rfl))
  try simp only [Act.put, List.setIfInBounds_toArray, List.set_cons_zero, List.set_cons_succ]
  refine wpAnyH_ready (rs := [1]) (by kernel_rfl) (by simp) ?_
  refine AllReadyH.cons (by simp; rfl) (fun K hK => ?_) AllReadyH.nil
  go_simp
  (go_at_call 143; (with_reducible refine Calls.cPF (lnBaseC (by omega)) ?_); intros)
  refine hK.out _ _ inferInstance ?_
  clear hHeld hK K
  intro hHeld
  try simp only [Act.put, List.setIfInBounds_toArray, List.set_cons_zero, List.set_cons_succ]
  refine wpAnyH_ready (rs := [3]) (by kernel_rfl) (by simp) ?_
  refine AllReadyH.cons (by simp; rfl) (fun K hK => ?_) AllReadyH.nil
  go_simp
  (go_at_call 141; (with_reducible refine Calls.cPF (lnDirC (by omega)) ?_); intros)
  refine hK.out _ _ inferInstance ?_
  clear hHeld hK K
  intro hHeld
  try simp only [Act.put, List.setIfInBounds_toArray, List.set_cons_zero, List.set_cons_succ]
  refine wpAnyH_ready (rs := [5]) (by kernel_rfl) (by simp) ?_
  refine AllReadyH.cons (by simp; rfl) (fun K hK => ?_) AllReadyH.nil
  go_simp
  (go_at_call 112; (with_reducible refine Calls.cPF (ptScaleC (by omega)) ?_); intros)
  refine hK.out _ _ inferInstance ?_
  clear hHeld hK K
  intro hHeld
  try simp only [Act.put, List.setIfInBounds_toArray, List.set_cons_zero, List.set_cons_succ]
  refine wpAnyH_ready (rs := [6]) (by kernel_rfl) (by simp) ?_
  refine AllReadyH.cons (by simp; rfl) (fun K hK => ?_) AllReadyH.nil
  go_simp
  (go_at_call 164; (with_reducible refine Calls.cPF (ptAddC (by omega)) ?_); intros)
  refine hK.out _ _ inferInstance ?_
  clear hHeld hK K
  intro hHeld
  try simp only [Act.put, List.setIfInBounds_toArray, List.set_cons_zero, List.set_cons_succ]
  refine wpAnyH_ready (rs := [7]) (by kernel_rfl) (by simp) ?_
  refine AllReadyH.cons (by simp; rfl) (fun K hK => ?_) AllReadyH.nil
  go_simp
  refine hK.out _ _ inferInstance ?_
  clear hHeld hK K
  intro hHeld
  try simp only [Act.put, List.setIfInBounds_toArray, List.set_cons_zero, List.set_cons_succ]
  refine wpAnyH_done (by kernel_rfl) ?_ _
  clear hHeld
  go_wp2
  refine ret_bx rfl Tryz.underlying117 rfl (by kernel_rfl) rfl rfl rfl ?_
  exact CPFRet.fin rfl (by omega) rfl (by omega)

set_option maxRecDepth 100000 in
set_option maxHeartbeats 4000000 in
set_option synthInstance.maxSize 100000 in
set_option synthInstance.maxHeartbeats 1000000 in
theorem lnParamC {w : World} {n1x : Int} {d1x : Int} {p1x : Option Addr} {n1y : Int} {d1y : Int} {p1y : Option Addr} {n1z : Int} {d1z : Int} {p1z : Option Addr} {la lb lc : Rat} {n2x : Int} {d2x : Int} {p2x : Option Addr} {n2y : Int} {d2y : Int} {p2y : Option Addr} {x y : Rat} {k1x k1y k1z k2x k2y : Nat} [h1x : CF w (.agg #[.int .i64 n1x, .int .i64 d1x, .pointer p1x]) la k1x] [h1y : CF w (.agg #[.int .i64 n1y, .int .i64 d1y, .pointer p1y]) lb k1y] [h1z : CF w (.agg #[.int .i64 n1z, .int .i64 d1z, .pointer p1z]) lc k1z] [h2x : CF w (.agg #[.int .i64 n2x, .int .i64 d2x, .pointer p2x]) x k2x] [h2y : CF w (.agg #[.int .i64 n2y, .int .i64 d2y, .pointer p2y]) y k2y] (b : k1x ≤ 8000 ∧ k1y ≤ 8000 ∧ k1z ≤ 8000 ∧ k2x ≤ 8000 ∧ k2y ≤ 8000) :
    Calls Tryz.prog 148 #[.agg #[.int .i64 n1x, .int .i64 d1x, .pointer p1x, .int .i64 n1y, .int .i64 d1y, .pointer p1y, .int .i64 n1z, .int .i64 d1z, .pointer p1z], .agg #[.int .i64 n2x, .int .i64 d2x, .pointer p2x, .int .i64 n2y, .int .i64 d2y, .pointer p2y]] w (CFRet w ((lb * x + -la * y) / (lb * lb + -la * -la)) (6 * (max k1x k1y) + k2x + k2y + 30)) := by
  go_enter Tryz.func148, Tryz.ntmps148
  go_wp2_with (first
    | (go_at_call 141; (with_reducible refine Calls.cPF (lnDirC (by omega)) ?_); intros))
  refine region_cls (by kernel_rfl) [w.heap.size + 1 + 1] (fun hHeld => ?_)
  refine wpAnyH_take (i := 0) (v := ?z217) (by simp; rfl) (by kernel_rfl) (by kernel_rfl) (by kernel_rfl) (by exact fun _ _ _ h => h) (Or.inl ⟨by rfl, ?yz217⟩) hHeld ?_
  case yz217 => (intro wx hSw; have hSx := Ex1.mk hSw; go_simp; (try with_reducible rfl))
  try simp only [Act.put, List.setIfInBounds_toArray, List.set_cons_zero, List.set_cons_succ]
  refine wpAnyH_take (i := 1) (v := ?z218) (by simp; rfl) (by kernel_rfl) (by kernel_rfl) (by kernel_rfl) (by exact fun _ _ _ h => h) (Or.inl ⟨by rfl, ?yz218⟩) hHeld ?_
  case yz218 => (intro wx hSw; have hSx := Ex1.mk hSw; go_simp; (try with_reducible rfl))
  try simp only [Act.put, List.setIfInBounds_toArray, List.set_cons_zero, List.set_cons_succ]
  refine wpAnyH_take (i := 3) (v := ?z219) (by simp; rfl) (by kernel_rfl) (by kernel_rfl) (by kernel_rfl) (by exact fun _ _ _ h => h) (Or.inl ⟨by rfl, ?yz219⟩) hHeld ?_
  case yz219 => (intro wx hSw; have hSx := Ex1.mk hSw; go_simp; (try with_reducible rfl))
  try simp only [Act.put, List.setIfInBounds_toArray, List.set_cons_zero, List.set_cons_succ]
  refine wpAnyH_take (i := 4) (v := ?z220) (by simp; rfl) (by kernel_rfl) (by kernel_rfl) (by kernel_rfl) (by exact fun _ _ _ h => h) (Or.inl ⟨by rfl, ?yz220⟩) hHeld ?_
  case yz220 => (intro wx hSw; have hSx := Ex1.mk hSw; go_simp; (try with_reducible rfl))
  try simp only [Act.put, List.setIfInBounds_toArray, List.set_cons_zero, List.set_cons_succ]
  refine wpAnyH_ready (rs := [2]) (by kernel_rfl) (by simp) ?_
  refine AllReadyH.cons (by simp; rfl) (fun K hK => ?_) AllReadyH.nil
  go_simp
  (go_at_call 184; (with_reducible refine Calls.cF (gDotC (by omega)) ?_); intros)
  refine hK.out _ _ inferInstance ?_
  clear hHeld hK K
  intro hHeld
  try simp only [Act.put, List.setIfInBounds_toArray, List.set_cons_zero, List.set_cons_succ]
  refine wpAnyH_ready (rs := [5]) (by kernel_rfl) (by simp) ?_
  refine AllReadyH.cons (by simp; rfl) (fun K hK => ?_) AllReadyH.nil
  go_simp
  (go_at_call 184; (with_reducible refine Calls.cF (gDotC (by omega)) ?_); intros)
  refine hK.out _ _ inferInstance ?_
  clear hHeld hK K
  intro hHeld
  try simp only [Act.put, List.setIfInBounds_toArray, List.set_cons_zero, List.set_cons_succ]
  refine wpAnyH_ready (rs := [6]) (by kernel_rfl) (by simp) ?_
  refine AllReadyH.cons (by simp; rfl) (fun K hK => ?_) AllReadyH.nil
  go_simp
  (go_at_call 196; (with_reducible refine Calls.cF (rQuoC (by omega)) ?_); intros)
  refine hK.out _ _ inferInstance ?_
  clear hHeld hK K
  intro hHeld
  try simp only [Act.put, List.setIfInBounds_toArray, List.set_cons_zero, List.set_cons_succ]
  refine wpAnyH_ready (rs := [7]) (by kernel_rfl) (by simp) ?_
  refine AllReadyH.cons (by simp; rfl) (fun K hK => ?_) AllReadyH.nil
  go_simp
  refine hK.out _ _ inferInstance ?_
  clear hHeld hK K
  intro hHeld
  try simp only [Act.put, List.setIfInBounds_toArray, List.set_cons_zero, List.set_cons_succ]
  refine wpAnyH_done (by kernel_rfl) ?_ _
  clear hHeld
  go_wp2
  refine ret_bx rfl Tryz.underlying115 rfl (by kernel_rfl) rfl rfl rfl ?_
  exact CFRet.fin rfl (by omega)

end Go.Proofs.YtlameeijogdckaaGreat

/- Plain laws: the coefficients of lines. No program is in sight here. -/
namespace Go.Proofs.YtlameeijogdckaaGreat
theorem rgcd_zero : rgcd 0 0 = 0 := by decide +kernel
/-- The greatest common divisor of multiples. -/
theorem rgcd_mul (x y : Rat) {t : Rat} (ht : 0 < t) : rgcd (x * t) (y * t) = rgcd x y * t := by
  by_cases h : x = 0 ∧ y = 0
  · obtain ⟨rfl, rfl⟩ := h
    rw [Rat.zero_mul, rgcd_zero, Rat.zero_mul]
  · have ht0 : t ≠ 0 := Rat.ne_of_gt ht
    have h' : ¬ (x * t = 0 ∧ y * t = 0) := by
      rintro ⟨h1, h2⟩
      exact h ⟨(Rat.mul_eq_zero.1 h1).resolve_right ht0, (Rat.mul_eq_zero.1 h2).resolve_right ht0⟩
    have p1 := rgcd_pos x y h
    have p2 := rgcd_pos _ _ h'
    have i1 := Rat.mul_inv_cancel _ (Rat.ne_of_gt p1)
    have i2 := Rat.mul_inv_cancel _ (Rat.ne_of_gt p2)
    have q1 := primX_mul x y
    have q2 := primX_mul y x
    have q3 := primX_mul (x * t) (y * t)
    have q4 := primX_mul (y * t) (x * t)
    rw [rgcd_comm] at q2 q4
    have hu := coprime_uniq (prim_gcd _ _ h') (prim_gcd x y h) (t := t * rgcd x y * (rgcd (x * t) (y * t))⁻¹) (mul_ps (mul_ps ht p1) (Rat.inv_pos.2 p2))
      (by rw [q3, q1]; grind) (by rw [q4, q2]; grind)
    rw [hu.1, q1] at q3
    rw [hu.2, q2] at q4
    generalize rgcd (x * t) (y * t) = g' at *
    generalize rgcd x y = g at *
    rcases Classical.em (x = 0) with hx | hx
    · have hy : y ≠ 0 := fun e => h ⟨hx, e⟩
      have : y * (g' - g * t) = 0 := by grind
      rcases Rat.mul_eq_zero.1 this with h1 | h1
      · exact absurd h1 hy
      · grind
    · have : x * (g' - g * t) = 0 := by grind
      rcases Rat.mul_eq_zero.1 this with h1 | h1
      · exact absurd h1 hx
      · grind
theorem rgcd_int (a b : Int) : rgcd (a : Rat) (b : Rat) = (((Nat.gcd a.natAbs b.natAbs : Nat) : Int) : Rat) := by
  rw [rgcd1 (by rfl) (by rfl)]; rfl
/-- The coefficients of the line a x + b y + c = 0. -/
def lnG (a b c : Rat) : Rat := rgcd (rgcd a b) c
def lnK (x a b c : Rat) : Rat := x * (lnG a b c)⁻¹
theorem lnG_mul (a b c : Rat) {t : Rat} (ht : 0 < t) : lnG (a * t) (b * t) (c * t) = lnG a b c * t := by
  unfold lnG; rw [rgcd_mul _ _ ht, rgcd_mul _ _ ht]
theorem lnK_mul (x a b c : Rat) {t : Rat} (ht : 0 < t) : lnK (x * t) (a * t) (b * t) (c * t) = lnK x a b c := by
  unfold lnK; rw [lnG_mul _ _ _ ht, Rat.inv_mul_rev]
  have := Rat.mul_inv_cancel t (Rat.ne_of_gt ht)
  grind
def gcd3 (a b c : Int) : Nat := Nat.gcd (Nat.gcd a.natAbs b.natAbs) c.natAbs
theorem lnG_int (a b c : Int) : lnG (a : Rat) (b : Rat) (c : Rat) = ((gcd3 a b c : Nat) : Int) := by
  unfold lnG gcd3; rw [rgcd_int, rgcd_int]; simp
theorem gcd3_dvd (a b c : Int) : ((gcd3 a b c : Nat) : Int) ∣ a ∧ ((gcd3 a b c : Nat) : Int) ∣ b ∧ ((gcd3 a b c : Nat) : Int) ∣ c := by
  refine ⟨?_, ?_, ?_⟩
  · rw [← Int.natAbs_dvd_natAbs, Int.natAbs_natCast]; exact Nat.dvd_trans (Nat.gcd_dvd_left _ _) (Nat.gcd_dvd_left _ _)
  · rw [← Int.natAbs_dvd_natAbs, Int.natAbs_natCast]; exact Nat.dvd_trans (Nat.gcd_dvd_left _ _) (Nat.gcd_dvd_right _ _)
  · rw [← Int.natAbs_dvd_natAbs, Int.natAbs_natCast]; exact Nat.gcd_dvd_right _ _
theorem gcd3_pos {a b : Int} (c : Int) (h : ¬ (a = 0 ∧ b = 0)) : 0 < gcd3 a b c := by
  unfold gcd3
  rcases Nat.eq_zero_or_pos (Nat.gcd (Nat.gcd a.natAbs b.natAbs) c.natAbs) with e | e
  · have e1 := Nat.eq_zero_of_gcd_eq_zero_left e
    exact absurd ⟨by have := Nat.eq_zero_of_gcd_eq_zero_left e1; omega, by have := Nat.eq_zero_of_gcd_eq_zero_right e1; omega⟩ h
  · exact e
theorem lnK_int {x a b c : Int} (h : ¬ (a = 0 ∧ b = 0)) (hx : ((gcd3 a b c : Nat) : Int) ∣ x) : lnK (x : Rat) (a : Rat) (b : Rat) (c : Rat) = ((x / ((gcd3 a b c : Nat) : Int) : Int) : Rat) := by
  unfold lnK
  rw [lnG_int]
  obtain ⟨k, hk⟩ := hx
  have hp := gcd3_pos c h
  have hz : ((gcd3 a b c : Nat) : Int) ≠ 0 := by omega
  generalize ((gcd3 a b c : Nat) : Int) = g at *
  subst hk
  rw [Int.mul_ediv_cancel_left _ hz]
  have hr : (g : Rat) ≠ 0 := by exact_mod_cast hz
  have := Rat.mul_inv_cancel _ hr
  have e : ((g * k : Int) : Rat) = (g : Rat) * (k : Rat) := by push_cast; rfl
  rw [e]
  grind
/-- The coefficients are coprime. -/
theorem gcd3_one {a b c : Int} (h : ¬ (a = 0 ∧ b = 0)) : gcd3 (a / ((gcd3 a b c : Nat) : Int)) (b / ((gcd3 a b c : Nat) : Int)) (c / ((gcd3 a b c : Nat) : Int)) = 1 := by
  have hp := gcd3_pos c h
  obtain ⟨h1, h2, h3⟩ := gcd3_dvd a b c
  have key : ∀ x : Int, ((gcd3 a b c : Nat) : Int) ∣ x → (x / ((gcd3 a b c : Nat) : Int)).natAbs = x.natAbs / gcd3 a b c := fun x hx => int_div_abs _ _ (by rw [← Int.natAbs_dvd_natAbs, Int.natAbs_natCast] at hx; exact hx)
  have e : gcd3 (a / ((gcd3 a b c : Nat) : Int)) (b / ((gcd3 a b c : Nat) : Int)) (c / ((gcd3 a b c : Nat) : Int)) = Nat.gcd (Nat.gcd (a.natAbs / gcd3 a b c) (b.natAbs / gcd3 a b c)) (c.natAbs / gcd3 a b c) := by
    show Nat.gcd (Nat.gcd _ _) _ = _
    rw [key a h1, key b h2, key c h3]
  rw [e]
  rw [← Int.natAbs_dvd_natAbs, Int.natAbs_natCast] at h1 h2 h3
  rw [Nat.gcd_div h1 h2, Nat.gcd_div (Nat.dvd_gcd h1 h2) h3]
  exact Nat.div_self hp
theorem int_mul_den (x : Rat) : x * (((x.den : Nat) : Int) : Rat) = (x.num : Rat) := by
  have hd : ((x.den : Int) : Rat) ≠ 0 := by have := x.den_nz; exact_mod_cast this
  have h := Rat.mkRat_self x
  rw [Rat.mkRat_eq_div, Rat.div_def] at h
  have i := Rat.mul_inv_cancel _ hd
  have e : ((x.den : Nat) : Rat) = ((x.den : Int) : Rat) := by push_cast; rfl
  rw [e] at h
  generalize ((x.den : Int) : Rat) = d at *
  generalize (x.num : Rat) = n at *
  grind
/-- A multiple of a number's denominator makes it an integer. -/
theorem mulD_int (x : Rat) {m : Nat} (h : x.den ∣ m) : x * ((m : Int) : Rat) = ((x * ((m : Int) : Rat)).num : Rat) := by
  obtain ⟨k, rfl⟩ := h
  have e : x * (((x.den * k : Nat) : Int) : Rat) = ((x.num * (k : Int) : Int) : Rat) := by
    have := int_mul_den x
    have e1 : (((x.den * k : Nat) : Int) : Rat) = (((x.den : Nat) : Int) : Rat) * ((k : Int) : Rat) := by push_cast; rfl
    have e2 : ((x.num * (k : Int) : Int) : Rat) = (x.num : Rat) * ((k : Int) : Rat) := by push_cast; rfl
    rw [e1, e2, ← this]; grind
  rw [e]; rfl
end Go.Proofs.YtlameeijogdckaaGreat

/- Valid lines: plain laws of the line through two points, of points on lines, of common points, of the order. No program is in sight here. -/
namespace Go.Proofs.YtlameeijogdckaaGreat
/-- Coefficients of a valid line. -/
def LnV (a b c : Int) : Prop := ¬ (a = 0 ∧ b = 0) ∧ gcd3 a b c = 1
/-- What lnK gives for coefficients: the integers of a valid line. -/
theorem lnK_valid {a b c : Rat} (h : ¬ (a = 0 ∧ b = 0)) : ∃ A B C : Int, (A : Rat) = lnK a a b c ∧ (B : Rat) = lnK b a b c ∧ (C : Rat) = lnK c a b c ∧ LnV A B C := by
  have hm : (0 : Rat) < (((a.den * b.den * c.den : Nat) : Int) : Rat) := by
    have : 0 < a.den * b.den * c.den := Nat.mul_pos (Nat.mul_pos a.den_pos b.den_pos) c.den_pos
    exact Rat.intCast_pos.2 (by omega)
  have ha := mulD_int a (m := a.den * b.den * c.den) ⟨b.den * c.den, by rw [Nat.mul_assoc]⟩
  have hb := mulD_int b (m := a.den * b.den * c.den) ⟨a.den * c.den, by rw [Nat.mul_comm a.den b.den, Nat.mul_assoc]⟩
  have hc := mulD_int c (m := a.den * b.den * c.den) ⟨a.den * b.den, by rw [Nat.mul_comm]⟩
  generalize (((a.den * b.den * c.den : Nat) : Int) : Rat) = m at *
  generalize (a * m).num = x at *
  generalize (b * m).num = y at *
  generalize (c * m).num = z at *
  have hxy : ¬ (x = 0 ∧ y = 0) := by
    rintro ⟨rfl, rfl⟩
    refine h ⟨?_, ?_⟩
    · rcases Rat.mul_eq_zero.1 (ha.trans rfl) with e | e
      · exact e
      · rw [e] at hm; exact absurd hm (by decide)
    · rcases Rat.mul_eq_zero.1 (hb.trans rfl) with e | e
      · exact e
      · rw [e] at hm; exact absurd hm (by decide)
  have hd := gcd3_dvd x y z
  refine ⟨x / ((gcd3 x y z : Nat) : Int), y / ((gcd3 x y z : Nat) : Int), z / ((gcd3 x y z : Nat) : Int), ?_, ?_, ?_, ?_, gcd3_one hxy⟩
  · rw [← lnK_int hxy hd.1, ← ha, ← hb, ← hc, lnK_mul _ _ _ _ hm]
  · rw [← lnK_int hxy hd.2.1, ← ha, ← hb, ← hc, lnK_mul _ _ _ _ hm]
  · rw [← lnK_int hxy hd.2.2, ← ha, ← hb, ← hc, lnK_mul _ _ _ _ hm]
  · rintro ⟨e1, e2⟩
    have h1 := Int.ediv_mul_cancel hd.1
    have h2 := Int.ediv_mul_cancel hd.2.1
    rw [e1] at h1; rw [e2] at h2
    exact hxy ⟨by rw [← h1]; simp, by rw [← h2]; simp⟩
theorem sq_ne {a b : Int} (h : ¬ (a = 0 ∧ b = 0)) : (a : Rat) * a + (b : Rat) * b ≠ 0 := by
  have h1 : (a : Rat) * a + (b : Rat) * b = ((a * a + b * b : Int) : Rat) := by simp [Rat.intCast_add, Rat.intCast_mul]
  rw [h1]
  intro e
  have e2 : a * a + b * b = 0 := by exact_mod_cast e
  have p1 : 0 ≤ a * a := by rcases Int.le_total 0 a with h | h; exact Int.mul_nonneg h h; exact Int.mul_nonneg_of_nonpos_of_nonpos h h
  have p2 : 0 ≤ b * b := by rcases Int.le_total 0 b with h | h; exact Int.mul_nonneg h h; exact Int.mul_nonneg_of_nonpos_of_nonpos h h
  have q1 : a * a = 0 := by omega
  have q2 : b * b = 0 := by omega
  exact h ⟨by rcases Int.mul_eq_zero.1 q1 with e | e <;> exact e, by rcases Int.mul_eq_zero.1 q2 with e | e <;> exact e⟩
end Go.Proofs.YtlameeijogdckaaGreat

/- Lines of package geo: from coefficients, from package api and back. printed by a small program (mkln2.py). -/
namespace Go.Proofs.YtlameeijogdckaaGreat
open Go.RowKit
set_option linter.unusedVariables false

theorem ret_bt {P : Program} {fn : Func} {R : Ending → World → Prop} {a : Act} {W : World} {b : Nat} {p u : Tmp} {ty t : TypeId} {d : TypeDesc} {l l' : List Value} [hb : Bx W b t l] (hr : fn.results = #[.cell p ty, .tmp u])
    (hu : P.underlying ty = some d) (hd : (match d with | .struct _ | .array _ _ => true | _ => false) = true) (hi : (P.info? ty).map (·.size) = some l.length)
    (hp : a.tmps.getD p undef = .pointer (some ⟨b, 0, none⟩)) (hdf : a.defers = []) (hl : l = l') (hR : R (.returned (.tuple #[.agg l'.toArray, a.tmps.getD u undef])) W) : bodyPost P fn R .ret a W := by
  subst hl
  exact ret_ct hr hp (loadVar_at W b ty l d hu hd hi (fun j hj => by rw [cell_bx, List.getElem?_eq_getElem hj])) hdf hR
def phiF (x : Rat) (k : Nat) (v : Value) (W : World) : Prop := ∃ n d p, v = .agg #[.int .i64 n, .int .i64 d, .pointer p] ∧ CF W (.agg #[.int .i64 n, .int .i64 d, .pointer p]) x k
instance {x : Rat} {k : Nat} : Last (phiF x k) := ⟨fun _ _ _ hb ⟨n, d, p, e, _⟩ => have := Kp1.mk hb; ⟨n, d, p, e, inferInstance⟩⟩
/-- A row of n elements that was made after w0. -/
def phiS (w0 : World) (t : TypeId) (l : List Value) (n : Nat) (v : Value) (W : World) : Prop := ∃ b, v = .slice (some ⟨b, 0, none⟩) n n ∧ Bx W b t l ∧ Ge w0 b ∧ Gg w0 b
instance {w0 : World} {t : TypeId} {l : List Value} {n : Nat} : Last (phiS w0 t l n) := ⟨fun _ _ _ hb ⟨b, e, _, h1, h2⟩ => have := Kp1.mk hb; ⟨b, e, inferInstance, h1, h2⟩⟩
theorem phiS.fin {w0 W : World} {t : TypeId} {l : List Value} {n b : Nat} [h : Bx W b t l] [h1 : Ge w0 b] [h2 : Gg w0 b] : phiS w0 t l n (.slice (some ⟨b, 0, none⟩) n n) W := ⟨b, rfl, h, h1, h2⟩
theorem phiF.fin {x x' : Rat} {k k' : Nat} {n d : Int} {p : Option Addr} {W : World} [h : CF W (.agg #[.int .i64 n, .int .i64 d, .pointer p]) x' k'] (e : x' = x) (b : k' ≤ k) : phiF x k (.agg #[.int .i64 n, .int .i64 d, .pointer p]) W := ⟨n, d, p, rfl, h.cast e b⟩
/-- A value of the kind LF and a Boolean are returned; nothing that was there has changed. -/
def LFBRet (w : World) (x y z : Rat) (v : Bool) (k : Nat) (e : Ending) (w' : World) : Prop := ∃ nx dx px ny dy py nz dz pz, e = .returned (.tuple #[.agg #[.int .i64 nx, .int .i64 dx, .pointer px, .int .i64 ny, .int .i64 dy, .pointer py, .int .i64 nz, .int .i64 dz, .pointer pz], .bool v]) ∧ CF w' (.agg #[.int .i64 nx, .int .i64 dx, .pointer px]) x k ∧ CF w' (.agg #[.int .i64 ny, .int .i64 dy, .pointer py]) y k ∧ CF w' (.agg #[.int .i64 nz, .int .i64 dz, .pointer pz]) z k ∧ Below w.heap.size w w'
theorem Calls.cLFB {P : Program} {f : FuncId} {args : Array Value} {w : World} {x y z : Rat} {v : Bool} {k : Nat} {K : Ending → World → Prop} (h : Calls P f args w (LFBRet w x y z v k))
    (hK : ∀ w' [Kp1 w w'] (nx : Int) (dx : Int) (px : Option Addr) (ny : Int) (dy : Int) (py : Option Addr) (nz : Int) (dz : Int) (pz : Option Addr) [CF w' (.agg #[.int .i64 nx, .int .i64 dx, .pointer px]) x k] [CF w' (.agg #[.int .i64 ny, .int .i64 dy, .pointer py]) y k] [CF w' (.agg #[.int .i64 nz, .int .i64 dz, .pointer pz]) z k], K (.returned (.tuple #[.agg #[.int .i64 nx, .int .i64 dx, .pointer px, .int .i64 ny, .int .i64 dy, .pointer py, .int .i64 nz, .int .i64 dz, .pointer pz], .bool v])) w') : Calls P f args w K := by
  refine h.mono ?_
  rintro e w' ⟨nx, dx, px, ny, dy, py, nz, dz, pz, rfl, hx, hy, hz, hb⟩
  exact @hK w' ⟨hb⟩ nx dx px ny dy py nz dz pz hx hy hz
theorem LFBRet.fin {w w' : World} {v : Bool} {nx : Int} {dx : Int} {px : Option Addr} {ny : Int} {dy : Int} {py : Option Addr} {nz : Int} {dz : Int} {pz : Option Addr} {x x' : Rat} {kx : Nat} {y y' : Rat} {ky : Nat} {z z' : Rat} {kz : Nat} {k : Nat} [b : Kp w w'] [hx : CF w' (.agg #[.int .i64 nx, .int .i64 dx, .pointer px]) x kx] [hy : CF w' (.agg #[.int .i64 ny, .int .i64 dy, .pointer py]) y ky] [hz : CF w' (.agg #[.int .i64 nz, .int .i64 dz, .pointer pz]) z kz] (ex : x = x') (mx : kx ≤ k) (ey : y = y') (my : ky ≤ k) (ez : z = z') (mz : kz ≤ k) : LFBRet w x' y' z' v k (.returned (.tuple #[.agg #[.int .i64 nx, .int .i64 dx, .pointer px, .int .i64 ny, .int .i64 dy, .pointer py, .int .i64 nz, .int .i64 dz, .pointer pz], .bool v])) w' :=
  ⟨_, _, _, _, _, _, _, _, _, rfl, hx.cast ex mx, hy.cast ey my, hz.cast ez mz, b.out⟩
/-- A value of the kind LZ and a Boolean are returned; nothing that was there has changed. -/
def LZBRet (w : World) (x y z : Int) (v : Bool) (k : Nat) (e : Ending) (w' : World) : Prop := ∃ gx ax lx cx gy ay ly cy gz az lz cz, e = .returned (.tuple #[.agg #[.bool gx, .slice ax lx cx, .bool gy, .slice ay ly cy, .bool gz, .slice az lz cz], .bool v]) ∧ CZ w' (.agg #[.bool gx, .slice ax lx cx]) x k ∧ CZ w' (.agg #[.bool gy, .slice ay ly cy]) y k ∧ CZ w' (.agg #[.bool gz, .slice az lz cz]) z k ∧ Below w.heap.size w w'
theorem Calls.cLZB {P : Program} {f : FuncId} {args : Array Value} {w : World} {x y z : Int} {v : Bool} {k : Nat} {K : Ending → World → Prop} (h : Calls P f args w (LZBRet w x y z v k))
    (hK : ∀ w' [Kp1 w w'] (gx : Bool) (ax : Option Addr) (lx : Nat) (cx : Nat) (gy : Bool) (ay : Option Addr) (ly : Nat) (cy : Nat) (gz : Bool) (az : Option Addr) (lz : Nat) (cz : Nat) [CZ w' (.agg #[.bool gx, .slice ax lx cx]) x k] [CZ w' (.agg #[.bool gy, .slice ay ly cy]) y k] [CZ w' (.agg #[.bool gz, .slice az lz cz]) z k], K (.returned (.tuple #[.agg #[.bool gx, .slice ax lx cx, .bool gy, .slice ay ly cy, .bool gz, .slice az lz cz], .bool v])) w') : Calls P f args w K := by
  refine h.mono ?_
  rintro e w' ⟨gx, ax, lx, cx, gy, ay, ly, cy, gz, az, lz, cz, rfl, hx, hy, hz, hb⟩
  exact @hK w' ⟨hb⟩ gx ax lx cx gy ay ly cy gz az lz cz hx hy hz
theorem LZBRet.fin {w w' : World} {v : Bool} {gx : Bool} {ax : Option Addr} {lx : Nat} {cx : Nat} {gy : Bool} {ay : Option Addr} {ly : Nat} {cy : Nat} {gz : Bool} {az : Option Addr} {lz : Nat} {cz : Nat} {x x' : Int} {kx : Nat} {y y' : Int} {ky : Nat} {z z' : Int} {kz : Nat} {k : Nat} [b : Kp w w'] [hx : CZ w' (.agg #[.bool gx, .slice ax lx cx]) x kx] [hy : CZ w' (.agg #[.bool gy, .slice ay ly cy]) y ky] [hz : CZ w' (.agg #[.bool gz, .slice az lz cz]) z kz] (ex : x = x') (mx : kx ≤ k) (ey : y = y') (my : ky ≤ k) (ez : z = z') (mz : kz ≤ k) : LZBRet w x' y' z' v k (.returned (.tuple #[.agg #[.bool gx, .slice ax lx cx, .bool gy, .slice ay ly cy, .bool gz, .slice az lz cz], .bool v])) w' :=
  ⟨_, _, _, _, _, _, _, _, _, _, _, _, rfl, hx.cast ex mx, hy.cast ey my, hz.cast ez mz, b.out⟩
/-- A value of the kind PF and a Boolean are returned; nothing that was there has changed. -/
def PFBRet (w : World) (x y : Rat) (v : Bool) (k : Nat) (e : Ending) (w' : World) : Prop := ∃ nx dx px ny dy py, e = .returned (.tuple #[.agg #[.int .i64 nx, .int .i64 dx, .pointer px, .int .i64 ny, .int .i64 dy, .pointer py], .bool v]) ∧ CF w' (.agg #[.int .i64 nx, .int .i64 dx, .pointer px]) x k ∧ CF w' (.agg #[.int .i64 ny, .int .i64 dy, .pointer py]) y k ∧ Below w.heap.size w w'
theorem PFBRet.fin {w w' : World} {v : Bool} {nx : Int} {dx : Int} {px : Option Addr} {ny : Int} {dy : Int} {py : Option Addr} {x x' : Rat} {kx : Nat} {y y' : Rat} {ky : Nat} {k : Nat} [b : Kp w w'] [hx : CF w' (.agg #[.int .i64 nx, .int .i64 dx, .pointer px]) x kx] [hy : CF w' (.agg #[.int .i64 ny, .int .i64 dy, .pointer py]) y ky] (ex : x = x') (mx : kx ≤ k) (ey : y = y') (my : ky ≤ k) : PFBRet w x' y' v k (.returned (.tuple #[.agg #[.int .i64 nx, .int .i64 dx, .pointer px, .int .i64 ny, .int .i64 dy, .pointer py], .bool v])) w' :=
  ⟨_, _, _, _, _, _, rfl, hx.cast ex mx, hy.cast ey my, b.out⟩
/-- A value of the kind PA and a Boolean are returned; nothing that was there has changed. -/
def PABRet (w : World) (x y : Rat) (v : Bool) (k : Nat) (e : Ending) (w' : World) : Prop := ∃ gx ax lx cx aax llx ccx gy ay ly cy aay lly ccy, e = .returned (.tuple #[.agg #[.bool gx, .slice ax lx cx, .slice aax llx ccx, .bool gy, .slice ay ly cy, .slice aay lly ccy], .bool v]) ∧ CA w' (.agg #[.bool gx, .slice ax lx cx, .slice aax llx ccx]) x k ∧ CA w' (.agg #[.bool gy, .slice ay ly cy, .slice aay lly ccy]) y k ∧ Below w.heap.size w w'
theorem PABRet.fin {w w' : World} {v : Bool} {gx : Bool} {ax : Option Addr} {lx : Nat} {cx : Nat} {aax : Option Addr} {llx : Nat} {ccx : Nat} {gy : Bool} {ay : Option Addr} {ly : Nat} {cy : Nat} {aay : Option Addr} {lly : Nat} {ccy : Nat} {x x' : Rat} {kx : Nat} {y y' : Rat} {ky : Nat} {k : Nat} [b : Kp w w'] [hx : CA w' (.agg #[.bool gx, .slice ax lx cx, .slice aax llx ccx]) x kx] [hy : CA w' (.agg #[.bool gy, .slice ay ly cy, .slice aay lly ccy]) y ky] (ex : x = x') (mx : kx ≤ k) (ey : y = y') (my : ky ≤ k) : PABRet w x' y' v k (.returned (.tuple #[.agg #[.bool gx, .slice ax lx cx, .slice aax llx ccx, .bool gy, .slice ay ly cy, .slice aay lly ccy], .bool v])) w' :=
  ⟨_, _, _, _, _, _, _, _, _, _, _, _, _, _, rfl, hx.cast ex mx, hy.cast ey my, b.out⟩
instance (priority := low) CF.zz {W : World} : CF W (.agg #[.int .i64 0, .int .i64 0, .pointer none]) 0 2 := CF.zero (by omega)
theorem rZeroV {w : World} {v : Bool} {n1 : Int} {d1 : Int} {p1 : Option Addr} {x : Rat} {k1 : Nat} [h1 : CF w (.agg #[.int .i64 n1, .int .i64 d1, .pointer p1]) x k1] (hv : Hid (decide (x = 0) = v)) :
    Calls Tryz.prog 158 #[.agg #[.int .i64 n1, .int .i64 d1, .pointer p1]] w (fun e w' => e = .returned (.bool v) ∧ Below w.heap.size w w') := by
  rw [← hv.out]; exact rZeroC
set_option maxRecDepth 100000 in
set_option maxHeartbeats 4000000 in
set_option synthInstance.maxSize 100000 in
set_option synthInstance.maxHeartbeats 1000000 in
theorem makeOk {w : World} {n1 : Int} {d1 : Int} {p1 : Option Addr} {x : Rat} {n2 : Int} {d2 : Int} {p2 : Option Addr} {y : Rat} {n3 : Int} {d3 : Int} {p3 : Option Addr} {z : Rat} {k1 k2 k3 : Nat} [h1 : CF w (.agg #[.int .i64 n1, .int .i64 d1, .pointer p1]) x k1] [h2 : CF w (.agg #[.int .i64 n2, .int .i64 d2, .pointer p2]) y k2] [h3 : CF w (.agg #[.int .i64 n3, .int .i64 d3, .pointer p3]) z k3] (b : k1 ≤ 10000 ∧ k2 ≤ 10000 ∧ k3 ≤ 10000) (h0 : Hid (¬ (x = 0 ∧ y = 0))) :
    Calls Tryz.prog 98 #[.agg #[.int .i64 n1, .int .i64 d1, .pointer p1], .agg #[.int .i64 n2, .int .i64 d2, .pointer p2], .agg #[.int .i64 n3, .int .i64 d3, .pointer p3]] w (LFBRet w (lnK x x y z) (lnK y x y z) (lnK z x y z) true (2 * (k1 + k2 + k3) + 60)) := by
  have hm : ∀ (v : Value) (W : World), (Go.method 369 115 v "Mul").run Tryz.prog W = .ok (190, v) W := fun _ _ => by kernel_rfl
  obtain ⟨u, hu⟩ : ∃ u, decide (x = 0) = u := ⟨_, rfl⟩
  have HX := Lib.hid hu
  have HY : Hid (u = true → decide (y = 0) = false) := fun e => decide_eq_false (fun h => h0.out ⟨of_decide_eq_true (hu.trans e), h⟩)
  clear hu
  go_enter Tryz.func98, Tryz.ntmps98
  go_upto_region 1 with fail
  go_cut [14] from 9 to 14 (fun t wx => t = .bool false ∧ Bx wx w.heap.size 115 [.int .i64 n1, .int .i64 d1, .pointer p1] ∧ Bx wx (w.heap.size + 1) 115 [.int .i64 n2, .int .i64 d2, .pointer p2] ∧ Bx wx (w.heap.size + 1 + 1) 115 [.int .i64 n3, .int .i64 d3, .pointer p3] ∧ Bx wx (w.heap.size + 1 + 1 + 1) 128 [.int .i64 0, .int .i64 0, .pointer none, .int .i64 0, .int .i64 0, .pointer none, .int .i64 0, .int .i64 0, .pointer none] ∧ CF wx (.agg #[.int .i64 n1, .int .i64 d1, .pointer p1]) x k1 ∧ CF wx (.agg #[.int .i64 n2, .int .i64 d2, .pointer p2]) y k2 ∧ CF wx (.agg #[.int .i64 n3, .int .i64 d3, .pointer p3]) z k3 ∧ Kp w wx)
  case first =>
    cases u with
    | true =>
      have HY' := Lib.hid (HY.out rfl)
      clear HY
      go_wp2_with (first
        | (go_at_call 158; (with_reducible refine Calls.cE (rZeroV HX) ?_); intros)
        | (go_at_call 158; (with_reducible refine Calls.cE (rZeroV HY') ?_); intros))
      go_meet
      exact ⟨rfl, inferInstance, inferInstance, inferInstance, inferInstance, inferInstance, inferInstance, inferInstance, inferInstance⟩
    | false =>
      go_wp2_with (first
        | (go_at_call 158; (with_reducible refine Calls.cE (rZeroV HX) ?_); intros))
      go_meet
      exact ⟨rfl, inferInstance, inferInstance, inferInstance, inferInstance, inferInstance, inferInstance, inferInstance, inferInstance⟩
  case rest =>
    obtain ⟨rfl, i1, i2, i3, i4, i5, i6, i7, i8⟩ := hcut
    clear HX HY
    go_wp2_with fail
    refine region_t (by kernel_rfl) [] (List.contains []) (fun hHeld => ?_)
    refine wpAnyT_take (i := 0) (v := ?z461) (by simp; rfl) (by kernel_rfl) (by kernel_rfl) (by kernel_rfl) (by exact fun _ _ _ h => h) (T_waits (by kernel_rfl)) (Or.inl ⟨by rfl, ?yz461⟩) hHeld ?_
    case yz461 => (intro wx hSw; have hSx := Ex1.mk hSw; go_simp; (try with_reducible rfl))
    try simp only [Act.put, List.setIfInBounds_toArray, List.set_cons_zero, List.set_cons_succ]
    refine wpAnyT_take (i := 1) (v := ?z462) (by simp; rfl) (by kernel_rfl) (by kernel_rfl) (by kernel_rfl) (by exact fun _ _ _ h => h) (T_waits (by kernel_rfl)) (Or.inl ⟨by rfl, ?yz462⟩) hHeld ?_
    case yz462 => (intro wx hSw; have hSx := Ex1.mk hSw; go_simp; (try with_reducible rfl))
    try simp only [Act.put, List.setIfInBounds_toArray, List.set_cons_zero, List.set_cons_succ]
    refine wpAnyT_take (i := 3) (v := ?z463) (by simp; rfl) (by kernel_rfl) (by kernel_rfl) (by kernel_rfl) (by exact fun _ _ _ h => h) (T_waits (by kernel_rfl)) (Or.inl ⟨by rfl, ?yz463⟩) hHeld ?_
    case yz463 => (intro wx hSw; have hSx := Ex1.mk hSw; go_simp; (try with_reducible rfl))
    try simp only [Act.put, List.setIfInBounds_toArray, List.set_cons_zero, List.set_cons_succ]
    refine wpAnyT_take (i := 6) (v := ?z464) (by simp; rfl) (by kernel_rfl) (by kernel_rfl) (by kernel_rfl) (by exact fun _ _ _ h => h) (T_waits (by kernel_rfl)) (Or.inl ⟨by rfl, ?yz464⟩) hHeld ?_
    case yz464 => (intro wx hSw; have hSx := Ex1.mk hSw; go_simp; (try with_reducible rfl))
    try simp only [Act.put, List.setIfInBounds_toArray, List.set_cons_zero, List.set_cons_succ]
    refine wpAnyT_take (i := 7) (v := ?z465) (by simp; rfl) (by kernel_rfl) (by kernel_rfl) (by kernel_rfl) (by exact fun _ _ _ h => h) (T_waits (by kernel_rfl)) (Or.inl ⟨by rfl, ?yz465⟩) hHeld ?_
    case yz465 => (intro wx hSw; have hSx := Ex1.mk hSw; go_simp; (try with_reducible rfl))
    try simp only [Act.put, List.setIfInBounds_toArray, List.set_cons_zero, List.set_cons_succ]
    refine wpAnyT_take (i := 8) (v := ?z466) (by simp; rfl) (by kernel_rfl) (by kernel_rfl) (by kernel_rfl) (by exact fun _ _ _ h => h) (T_waits (by kernel_rfl)) (Or.inl ⟨by rfl, ?yz466⟩) hHeld ?_
    case yz466 => (intro wx hSw; have hSx := Ex1.mk hSw; go_simp; (try with_reducible rfl))
    try simp only [Act.put, List.setIfInBounds_toArray, List.set_cons_zero, List.set_cons_succ]
    refine wpAnyT_inv [(2, 18), (4, 20), (5, 21), (9, 25)] (fun i => match i with | 2 => [] | 4 => [2] | 5 => [4] | 9 => [] | _ => []) [phiF (rgcd x y) (k1 + k2 + 6), phiF (rgcd (rgcd x y) z) (k1 + k2 + k3 + 12), phiF (rgcd (rgcd x y) z)⁻¹ (k1 + k2 + k3 + 14), phiS wc 115 [.int .i64 n1, .int .i64 d1, .pointer p1, .int .i64 n2, .int .i64 d2, .pointer p2, .int .i64 n3, .int .i64 d3, .pointer p3] 3] [] 2 (by rfl) (by decide +kernel) (by decide) (by decide) (by kernel_rfl) ?_ (fun _ _ => Ex.below) hHeld ?_ ?_
    · exact fun i hi => nomatch hi
    · intro i hi f W hSw hbw hp
      have kw := Kp1.mk hbw
      have hSx := Ex1.mk hSw
      clear hHeld
      simp only [List.map_cons, List.map_nil, List.mem_cons, List.not_mem_nil, or_false] at hi
      rcases hi with rfl | rfl | rfl | rfl
      · refine ⟨_, by simp; rfl, fun K' hK => ?_⟩
        clear hp
        simp only [putAll, Act.put, List.setIfInBounds_toArray, List.set_cons_zero, List.set_cons_succ] at hK ⊢
        generalize f 2 = v2 at *
        generalize f 4 = v4 at *
        generalize f 5 = v5 at *
        generalize f 9 = v9 at *
        go_simp
        (go_at_call 175; (with_reducible refine Calls.cF (fracGcdC (by omega)) ?_); intros)
        refine hK.out _ _ _ rfl ?_ ?_ ?_
        · exact (inferInstance : Kp W _).out
        · show phiF (rgcd x y) (k1 + k2 + 6) _ _
          exact phiF.fin rfl (by omega)
        · exact fun h => absurd h (by decide)
      · have h2 : phiF (rgcd x y) (k1 + k2 + 6) (f 2) W := hp 2 (by decide)
        refine ⟨_, by simp; rfl, fun K' hK => ?_⟩
        clear hp
        simp only [putAll, Act.put, List.setIfInBounds_toArray, List.set_cons_zero, List.set_cons_succ] at hK ⊢
        generalize f 2 = v2 at *
        generalize f 4 = v4 at *
        generalize f 5 = v5 at *
        generalize f 9 = v9 at *
        obtain ⟨n2, d2, p2, rfl, i2⟩ := h2
        go_simp
        (go_at_call 175; (with_reducible refine Calls.cF (fracGcdC (by omega)) ?_); intros)
        refine hK.out _ _ _ rfl ?_ ?_ ?_
        · exact (inferInstance : Kp W _).out
        · show phiF (rgcd (rgcd x y) z) (k1 + k2 + k3 + 12) _ _
          exact phiF.fin rfl (by omega)
        · exact fun h => absurd h (by decide)
      · have h4 : phiF (rgcd (rgcd x y) z) (k1 + k2 + k3 + 12) (f 4) W := hp 4 (by decide)
        refine ⟨_, by simp; rfl, fun K' hK => ?_⟩
        clear hp
        simp only [putAll, Act.put, List.setIfInBounds_toArray, List.set_cons_zero, List.set_cons_succ] at hK ⊢
        generalize f 2 = v2 at *
        generalize f 4 = v4 at *
        generalize f 5 = v5 at *
        generalize f 9 = v9 at *
        obtain ⟨n4, d4, p4, rfl, i4⟩ := h4
        go_simp
        (go_at_call 176; (with_reducible refine Calls.cF (rInvC (by omega)) ?_); intros)
        refine hK.out _ _ _ rfl ?_ ?_ ?_
        · exact (inferInstance : Kp W _).out
        · show phiF (rgcd (rgcd x y) z)⁻¹ (k1 + k2 + k3 + 14) _ _
          exact phiF.fin rfl (by omega)
        · exact fun h => absurd h (by decide)
      · refine ⟨_, by simp; rfl, fun K' hK => ?_⟩
        clear hp
        simp only [putAll, Act.put, List.setIfInBounds_toArray, List.set_cons_zero, List.set_cons_succ] at hK ⊢
        generalize f 2 = v2 at *
        generalize f 4 = v4 at *
        generalize f 5 = v5 at *
        generalize f 9 = v9 at *
        go_simp
        refine hK.out _ _ _ rfl ?_ ?_ ?_
        · exact (inferInstance : Kp W _).out
        · show phiS wc 115 [.int .i64 n1, .int .i64 d1, .pointer p1, .int .i64 n2, .int .i64 d2, .pointer p2, .int .i64 n3, .int .i64 d3, .pointer p3] 3 _ _
          exact phiS.fin
        · exact fun h => absurd h (by decide)
    · intro f W hSw hbw hf hne
      have kw := Kp1.mk hbw
      have hSx := Ex1.mk hSw
      clear hHeld
      have h2 : phiF (rgcd x y) (k1 + k2 + 6) (f 2) W := hf 2 (by decide)
      have h4 : phiF (rgcd (rgcd x y) z) (k1 + k2 + k3 + 12) (f 4) W := hf 4 (by decide)
      have h5 : phiF (rgcd (rgcd x y) z)⁻¹ (k1 + k2 + k3 + 14) (f 5) W := hf 5 (by decide)
      have h9 : phiS wc 115 [.int .i64 n1, .int .i64 d1, .pointer p1, .int .i64 n2, .int .i64 d2, .pointer p2, .int .i64 n3, .int .i64 d3, .pointer p3] 3 (f 9) W := hf 9 (by decide)
      clear hf hne
      simp only [putAll, lset, List.map_cons, List.map_nil, Act.put, List.setIfInBounds_toArray, List.set_cons_zero, List.set_cons_succ]
      generalize f 2 = v2 at *
      generalize f 4 = v4 at *
      generalize f 5 = v5 at *
      generalize f 9 = v9 at *
      obtain ⟨n2, d2, p2, rfl, i2⟩ := h2
      obtain ⟨n4, d4, p4, rfl, i4⟩ := h4
      obtain ⟨n5, d5, p5, rfl, i5⟩ := h5
      obtain ⟨b9, rfl, i9, j9, k9⟩ := h9
      have hl4 := Bx.lt (W := wc) (b := w.heap.size + 1 + 1 + 1) inferInstance
      have nn : NeN b9 (w.heap.size + 1 + 1 + 1) := ⟨by have h1 := j9.out; omega⟩
      clear hl4
      have gw : Ge w b9 := ⟨by have h1 := j9.out; have h2 := i8.out.size; omega⟩
      have hHeld := hSw
      refine wpAnyT_ready (rs := [10]) (by kernel_rfl) (by simp) ?_
      refine AllT.cons (by simp; rfl) (fun K hK => ?_) AllT.nil
      go_simp
      go_enter Tryz.func174, Tryz.ntmps174
      go_wp2_with fail
      refine wp_loop_rounds 4 ?_
      rw [rounds_succ]
      go_wp2_with fail
      refine region_t (by kernel_rfl) [] (List.contains [10]) (fun hHeld => ?_)
      refine wpAnyT_take (i := 0) (v := ?z423) (by simp; rfl) (by kernel_rfl) (by kernel_rfl) (by kernel_rfl) (by exact fun _ _ _ h => h) (T_waits (by kernel_rfl)) (Or.inl ⟨by rfl, ?yz423⟩) hHeld ?_
      case yz423 => (intro wx hSw; have hSx := Ex1.mk hSw; go_simp; (try with_reducible rfl))
      try simp only [Act.put, List.setIfInBounds_toArray, List.set_cons_zero, List.set_cons_succ]
      refine wpAnyT_take (i := 1) (v := ?z424) (by simp; rfl) (by kernel_rfl) (by kernel_rfl) (by kernel_rfl) (by exact fun _ _ _ h => h) (T_waits (by kernel_rfl)) (Or.inl ⟨by rfl, ?yz424⟩) hHeld ?_
      case yz424 => (intro wx hSw; have hSx := Ex1.mk hSw; go_simp; (try with_reducible rfl))
      try simp only [Act.put, List.setIfInBounds_toArray, List.set_cons_zero, List.set_cons_succ]
      refine wpAnyT_take (i := 2) (v := ?z425) (by simp; rfl) (by kernel_rfl) (by kernel_rfl) (by kernel_rfl) (by exact fun _ _ _ h => h) (T_waits (by kernel_rfl)) (Or.inl ⟨by rfl, ?yz425⟩) hHeld ?_
      case yz425 => (intro wx hSw; have hSx := Ex1.mk hSw; go_simp; (try with_reducible rfl))
      try simp only [Act.put, List.setIfInBounds_toArray, List.set_cons_zero, List.set_cons_succ]
      refine wpAnyT_take (i := 3) (v := ?z426) (by simp; rfl) (by kernel_rfl) (by kernel_rfl) (by kernel_rfl) (by exact fun _ _ _ h => h) (T_waits (by kernel_rfl)) (Or.inl ⟨by rfl, ?yz426⟩) hHeld ?_
      case yz426 => (intro wx hSw; have hSx := Ex1.mk hSw; go_simp; (try with_reducible rfl))
      try simp only [Act.put, List.setIfInBounds_toArray, List.set_cons_zero, List.set_cons_succ]
      refine wpAnyT_take (i := 4) (v := ?z427) (by simp; rfl) (by kernel_rfl) (by kernel_rfl) (by kernel_rfl) (by exact fun _ _ _ h => h) (T_waits (by kernel_rfl)) (Or.inl ⟨by rfl, ?yz427⟩) hHeld ?_
      case yz427 => (intro wx hSw; have hSx := Ex1.mk hSw; go_simp; (try with_reducible rfl))
      try simp only [Act.put, List.setIfInBounds_toArray, List.set_cons_zero, List.set_cons_succ]
      refine wpAnyT_take (i := 5) (v := ?z428) (by simp; rfl) (by kernel_rfl) (by kernel_rfl) (by kernel_rfl) (by exact fun _ _ _ h => h) (T_waits (by kernel_rfl)) (Or.inl ⟨by rfl, ?yz428⟩) hHeld ?_
      case yz428 => (intro wx hSw; have hSx := Ex1.mk hSw; go_simp; (try with_reducible rfl))
      try simp only [Act.put, List.setIfInBounds_toArray, List.set_cons_zero, List.set_cons_succ]
      refine wpAnyT_take (i := 6) (v := ?z429) (by simp; rfl) (by kernel_rfl) (by kernel_rfl) (by kernel_rfl) (by exact fun _ _ _ h => h) (T_waits (by kernel_rfl)) (Or.inl ⟨by rfl, ?yz429⟩) hHeld ?_
      case yz429 => (intro wx hSw; have hSx := Ex1.mk hSw; go_simp; (try with_reducible rfl))
      try simp only [Act.put, List.setIfInBounds_toArray, List.set_cons_zero, List.set_cons_succ]
      refine wpAnyT_take (i := 7) (v := ?z430) (by simp; rfl) (by kernel_rfl) (by kernel_rfl) (by kernel_rfl) (by exact fun _ _ _ h => h) (T_waits (by kernel_rfl)) (Or.inl ⟨by rfl, ?yz430⟩) hHeld ?_
      case yz430 => (intro wx hSw; have hSx := Ex1.mk hSw; go_simp; (try with_reducible rfl))
      try simp only [Act.put, List.setIfInBounds_toArray, List.set_cons_zero, List.set_cons_succ]
      refine wpAnyT_ready (rs := [8]) (by kernel_rfl) (by simp) ?_
      refine AllT.cons (by simp; rfl) (fun K hK => ?_) AllT.nil
      go_simp
      (go_at_call 190; (with_reducible refine Calls.cF (rMulC (by omega)) ?_); intros)
      refine hK.out _ _ (fun _ => inferInstance) ?_
      clear hHeld hK
      intro hHeld
      have hHeld := hHeld (by decide)
      try simp only [Act.put, List.setIfInBounds_toArray, List.set_cons_zero, List.set_cons_succ]
      refine wpAnyT_take (i := 9) (v := ?z431) (by simp; rfl) (by kernel_rfl) (by kernel_rfl) (by kernel_rfl) (by exact fun _ _ _ h => h) (T_waits (by kernel_rfl)) (Or.inl ⟨by rfl, ?yz431⟩) hHeld ?_
      case yz431 => (intro wx hSw; have hSx := Ex1.mk hSw; go_simp; (try with_reducible rfl))
      try simp only [Act.put, List.setIfInBounds_toArray, List.set_cons_zero, List.set_cons_succ]
      refine wpAnyT_ready (rs := [10]) (by kernel_rfl) (by simp) ?_
      refine AllT.cons (by simp; rfl) (fun K hK => ?_) AllT.nil
      go_simp
      refine hK.out _ _ (fun h => absurd h (by decide)) ?_
      clear hHeld hK
      intro hHeld
      try simp only [Act.put, List.setIfInBounds_toArray, List.set_cons_zero, List.set_cons_succ]
      refine wpAnyT_done (by kernel_rfl) ?_ _
      clear hHeld
      go_wp2_with fail
      rw [rounds_succ]
      go_wp2_with fail
      refine region_t (by kernel_rfl) [] (List.contains [10]) (fun hHeld => ?_)
      refine wpAnyT_take (i := 0) (v := ?z432) (by simp; rfl) (by kernel_rfl) (by kernel_rfl) (by kernel_rfl) (by exact fun _ _ _ h => h) (T_waits (by kernel_rfl)) (Or.inl ⟨by rfl, ?yz432⟩) hHeld ?_
      case yz432 => (intro wx hSw; have hSx := Ex1.mk hSw; go_simp; (try with_reducible rfl))
      try simp only [Act.put, List.setIfInBounds_toArray, List.set_cons_zero, List.set_cons_succ]
      refine wpAnyT_take (i := 1) (v := ?z433) (by simp; rfl) (by kernel_rfl) (by kernel_rfl) (by kernel_rfl) (by exact fun _ _ _ h => h) (T_waits (by kernel_rfl)) (Or.inl ⟨by rfl, ?yz433⟩) hHeld ?_
      case yz433 => (intro wx hSw; have hSx := Ex1.mk hSw; go_simp; (try with_reducible rfl))
      try simp only [Act.put, List.setIfInBounds_toArray, List.set_cons_zero, List.set_cons_succ]
      refine wpAnyT_take (i := 2) (v := ?z434) (by simp; rfl) (by kernel_rfl) (by kernel_rfl) (by kernel_rfl) (by exact fun _ _ _ h => h) (T_waits (by kernel_rfl)) (Or.inl ⟨by rfl, ?yz434⟩) hHeld ?_
      case yz434 => (intro wx hSw; have hSx := Ex1.mk hSw; go_simp; (try with_reducible rfl))
      try simp only [Act.put, List.setIfInBounds_toArray, List.set_cons_zero, List.set_cons_succ]
      refine wpAnyT_take (i := 3) (v := ?z435) (by simp; rfl) (by kernel_rfl) (by kernel_rfl) (by kernel_rfl) (by exact fun _ _ _ h => h) (T_waits (by kernel_rfl)) (Or.inl ⟨by rfl, ?yz435⟩) hHeld ?_
      case yz435 => (intro wx hSw; have hSx := Ex1.mk hSw; go_simp; (try with_reducible rfl))
      try simp only [Act.put, List.setIfInBounds_toArray, List.set_cons_zero, List.set_cons_succ]
      refine wpAnyT_take (i := 4) (v := ?z436) (by simp; rfl) (by kernel_rfl) (by kernel_rfl) (by kernel_rfl) (by exact fun _ _ _ h => h) (T_waits (by kernel_rfl)) (Or.inl ⟨by rfl, ?yz436⟩) hHeld ?_
      case yz436 => (intro wx hSw; have hSx := Ex1.mk hSw; go_simp; (try with_reducible rfl))
      try simp only [Act.put, List.setIfInBounds_toArray, List.set_cons_zero, List.set_cons_succ]
      refine wpAnyT_take (i := 5) (v := ?z437) (by simp; rfl) (by kernel_rfl) (by kernel_rfl) (by kernel_rfl) (by exact fun _ _ _ h => h) (T_waits (by kernel_rfl)) (Or.inl ⟨by rfl, ?yz437⟩) hHeld ?_
      case yz437 => (intro wx hSw; have hSx := Ex1.mk hSw; go_simp; (try with_reducible rfl))
      try simp only [Act.put, List.setIfInBounds_toArray, List.set_cons_zero, List.set_cons_succ]
      refine wpAnyT_take (i := 6) (v := ?z438) (by simp; rfl) (by kernel_rfl) (by kernel_rfl) (by kernel_rfl) (by exact fun _ _ _ h => h) (T_waits (by kernel_rfl)) (Or.inl ⟨by rfl, ?yz438⟩) hHeld ?_
      case yz438 => (intro wx hSw; have hSx := Ex1.mk hSw; go_simp; (try with_reducible rfl))
      try simp only [Act.put, List.setIfInBounds_toArray, List.set_cons_zero, List.set_cons_succ]
      refine wpAnyT_take (i := 7) (v := ?z439) (by simp; rfl) (by kernel_rfl) (by kernel_rfl) (by kernel_rfl) (by exact fun _ _ _ h => h) (T_waits (by kernel_rfl)) (Or.inl ⟨by rfl, ?yz439⟩) hHeld ?_
      case yz439 => (intro wx hSw; have hSx := Ex1.mk hSw; go_simp; (try with_reducible rfl))
      try simp only [Act.put, List.setIfInBounds_toArray, List.set_cons_zero, List.set_cons_succ]
      refine wpAnyT_ready (rs := [8]) (by kernel_rfl) (by simp) ?_
      refine AllT.cons (by simp; rfl) (fun K hK => ?_) AllT.nil
      go_simp
      (go_at_call 190; (with_reducible refine Calls.cF (rMulC (by omega)) ?_); intros)
      refine hK.out _ _ (fun _ => inferInstance) ?_
      clear hHeld hK
      intro hHeld
      have hHeld := hHeld (by decide)
      try simp only [Act.put, List.setIfInBounds_toArray, List.set_cons_zero, List.set_cons_succ]
      refine wpAnyT_take (i := 9) (v := ?z440) (by simp; rfl) (by kernel_rfl) (by kernel_rfl) (by kernel_rfl) (by exact fun _ _ _ h => h) (T_waits (by kernel_rfl)) (Or.inl ⟨by rfl, ?yz440⟩) hHeld ?_
      case yz440 => (intro wx hSw; have hSx := Ex1.mk hSw; go_simp; (try with_reducible rfl))
      try simp only [Act.put, List.setIfInBounds_toArray, List.set_cons_zero, List.set_cons_succ]
      refine wpAnyT_ready (rs := [10]) (by kernel_rfl) (by simp) ?_
      refine AllT.cons (by simp; rfl) (fun K hK => ?_) AllT.nil
      go_simp
      refine hK.out _ _ (fun h => absurd h (by decide)) ?_
      clear hHeld hK
      intro hHeld
      try simp only [Act.put, List.setIfInBounds_toArray, List.set_cons_zero, List.set_cons_succ]
      refine wpAnyT_done (by kernel_rfl) ?_ _
      clear hHeld
      go_wp2_with fail
      rw [rounds_succ]
      go_wp2_with fail
      refine region_t (by kernel_rfl) [] (List.contains [10]) (fun hHeld => ?_)
      refine wpAnyT_take (i := 0) (v := ?z441) (by simp; rfl) (by kernel_rfl) (by kernel_rfl) (by kernel_rfl) (by exact fun _ _ _ h => h) (T_waits (by kernel_rfl)) (Or.inl ⟨by rfl, ?yz441⟩) hHeld ?_
      case yz441 => (intro wx hSw; have hSx := Ex1.mk hSw; go_simp; (try with_reducible rfl))
      try simp only [Act.put, List.setIfInBounds_toArray, List.set_cons_zero, List.set_cons_succ]
      refine wpAnyT_take (i := 1) (v := ?z442) (by simp; rfl) (by kernel_rfl) (by kernel_rfl) (by kernel_rfl) (by exact fun _ _ _ h => h) (T_waits (by kernel_rfl)) (Or.inl ⟨by rfl, ?yz442⟩) hHeld ?_
      case yz442 => (intro wx hSw; have hSx := Ex1.mk hSw; go_simp; (try with_reducible rfl))
      try simp only [Act.put, List.setIfInBounds_toArray, List.set_cons_zero, List.set_cons_succ]
      refine wpAnyT_take (i := 2) (v := ?z443) (by simp; rfl) (by kernel_rfl) (by kernel_rfl) (by kernel_rfl) (by exact fun _ _ _ h => h) (T_waits (by kernel_rfl)) (Or.inl ⟨by rfl, ?yz443⟩) hHeld ?_
      case yz443 => (intro wx hSw; have hSx := Ex1.mk hSw; go_simp; (try with_reducible rfl))
      try simp only [Act.put, List.setIfInBounds_toArray, List.set_cons_zero, List.set_cons_succ]
      refine wpAnyT_take (i := 3) (v := ?z444) (by simp; rfl) (by kernel_rfl) (by kernel_rfl) (by kernel_rfl) (by exact fun _ _ _ h => h) (T_waits (by kernel_rfl)) (Or.inl ⟨by rfl, ?yz444⟩) hHeld ?_
      case yz444 => (intro wx hSw; have hSx := Ex1.mk hSw; go_simp; (try with_reducible rfl))
      try simp only [Act.put, List.setIfInBounds_toArray, List.set_cons_zero, List.set_cons_succ]
      refine wpAnyT_take (i := 4) (v := ?z445) (by simp; rfl) (by kernel_rfl) (by kernel_rfl) (by kernel_rfl) (by exact fun _ _ _ h => h) (T_waits (by kernel_rfl)) (Or.inl ⟨by rfl, ?yz445⟩) hHeld ?_
      case yz445 => (intro wx hSw; have hSx := Ex1.mk hSw; go_simp; (try with_reducible rfl))
      try simp only [Act.put, List.setIfInBounds_toArray, List.set_cons_zero, List.set_cons_succ]
      refine wpAnyT_take (i := 5) (v := ?z446) (by simp; rfl) (by kernel_rfl) (by kernel_rfl) (by kernel_rfl) (by exact fun _ _ _ h => h) (T_waits (by kernel_rfl)) (Or.inl ⟨by rfl, ?yz446⟩) hHeld ?_
      case yz446 => (intro wx hSw; have hSx := Ex1.mk hSw; go_simp; (try with_reducible rfl))
      try simp only [Act.put, List.setIfInBounds_toArray, List.set_cons_zero, List.set_cons_succ]
      refine wpAnyT_take (i := 6) (v := ?z447) (by simp; rfl) (by kernel_rfl) (by kernel_rfl) (by kernel_rfl) (by exact fun _ _ _ h => h) (T_waits (by kernel_rfl)) (Or.inl ⟨by rfl, ?yz447⟩) hHeld ?_
      case yz447 => (intro wx hSw; have hSx := Ex1.mk hSw; go_simp; (try with_reducible rfl))
      try simp only [Act.put, List.setIfInBounds_toArray, List.set_cons_zero, List.set_cons_succ]
      refine wpAnyT_take (i := 7) (v := ?z448) (by simp; rfl) (by kernel_rfl) (by kernel_rfl) (by kernel_rfl) (by exact fun _ _ _ h => h) (T_waits (by kernel_rfl)) (Or.inl ⟨by rfl, ?yz448⟩) hHeld ?_
      case yz448 => (intro wx hSw; have hSx := Ex1.mk hSw; go_simp; (try with_reducible rfl))
      try simp only [Act.put, List.setIfInBounds_toArray, List.set_cons_zero, List.set_cons_succ]
      refine wpAnyT_ready (rs := [8]) (by kernel_rfl) (by simp) ?_
      refine AllT.cons (by simp; rfl) (fun K hK => ?_) AllT.nil
      go_simp
      (go_at_call 190; (with_reducible refine Calls.cF (rMulC (by omega)) ?_); intros)
      refine hK.out _ _ (fun _ => inferInstance) ?_
      clear hHeld hK
      intro hHeld
      have hHeld := hHeld (by decide)
      try simp only [Act.put, List.setIfInBounds_toArray, List.set_cons_zero, List.set_cons_succ]
      refine wpAnyT_take (i := 9) (v := ?z449) (by simp; rfl) (by kernel_rfl) (by kernel_rfl) (by kernel_rfl) (by exact fun _ _ _ h => h) (T_waits (by kernel_rfl)) (Or.inl ⟨by rfl, ?yz449⟩) hHeld ?_
      case yz449 => (intro wx hSw; have hSx := Ex1.mk hSw; go_simp; (try with_reducible rfl))
      try simp only [Act.put, List.setIfInBounds_toArray, List.set_cons_zero, List.set_cons_succ]
      refine wpAnyT_ready (rs := [10]) (by kernel_rfl) (by simp) ?_
      refine AllT.cons (by simp; rfl) (fun K hK => ?_) AllT.nil
      go_simp
      refine hK.out _ _ (fun h => absurd h (by decide)) ?_
      clear hHeld hK
      intro hHeld
      try simp only [Act.put, List.setIfInBounds_toArray, List.set_cons_zero, List.set_cons_succ]
      refine wpAnyT_done (by kernel_rfl) ?_ _
      clear hHeld
      go_wp2_with fail
      rw [rounds_succ]
      go_wp2_with fail
      go_simp
      refine hK.out _ _ (fun _ => inferInstance) ?_
      clear hHeld hK
      intro hHeld
      have hHeld := hHeld (by decide)
      try simp only [Act.put, List.setIfInBounds_toArray, List.set_cons_zero, List.set_cons_succ]
      refine wpAnyT_take (i := 11) (v := ?z467) (by simp; rfl) (by kernel_rfl) (by kernel_rfl) (by kernel_rfl) (by exact fun _ _ _ h => h) (T_waits (by kernel_rfl)) (Or.inl ⟨by rfl, ?yz467⟩) hHeld ?_
      case yz467 => (intro wx hSw; have hSx := Ex1.mk hSw; go_simp; (try with_reducible rfl))
      try simp only [Act.put, List.setIfInBounds_toArray, List.set_cons_zero, List.set_cons_succ]
      refine wpAnyT_done (by kernel_rfl) ?_ _
      clear hHeld
      go_wp2_with fail
      refine region_t (by kernel_rfl) [] (List.contains [10, 11]) (fun hHeld => ?_)
      refine wpAnyT_take (i := 0) (v := ?z450) (by simp; rfl) (by kernel_rfl) (by kernel_rfl) (by kernel_rfl) (by exact fun _ _ _ h => h) (T_waits (by kernel_rfl)) (Or.inl ⟨by rfl, ?yz450⟩) hHeld ?_
      case yz450 => (intro wx hSw; have hSx := Ex1.mk hSw; go_simp; (try with_reducible rfl))
      try simp only [Act.put, List.setIfInBounds_toArray, List.set_cons_zero, List.set_cons_succ]
      refine wpAnyT_take (i := 1) (v := ?z451) (by simp; rfl) (by kernel_rfl) (by kernel_rfl) (by kernel_rfl) (by exact fun _ _ _ h => h) (T_waits (by kernel_rfl)) (Or.inl ⟨by rfl, ?yz451⟩) hHeld ?_
      case yz451 => (intro wx hSw; have hSx := Ex1.mk hSw; go_simp; (try with_reducible rfl))
      try simp only [Act.put, List.setIfInBounds_toArray, List.set_cons_zero, List.set_cons_succ]
      refine wpAnyT_take (i := 2) (v := ?z452) (by simp; rfl) (by kernel_rfl) (by kernel_rfl) (by kernel_rfl) (by exact fun _ _ _ h => h) (T_waits (by kernel_rfl)) (Or.inl ⟨by rfl, ?yz452⟩) hHeld ?_
      case yz452 => (intro wx hSw; have hSx := Ex1.mk hSw; go_simp; (try with_reducible rfl))
      try simp only [Act.put, List.setIfInBounds_toArray, List.set_cons_zero, List.set_cons_succ]
      refine wpAnyT_take (i := 3) (v := ?z453) (by simp; rfl) (by kernel_rfl) (by kernel_rfl) (by kernel_rfl) (by exact fun _ _ _ h => h) (T_waits (by kernel_rfl)) (Or.inl ⟨by rfl, ?yz453⟩) hHeld ?_
      case yz453 => (intro wx hSw; have hSx := Ex1.mk hSw; go_simp; (try with_reducible rfl))
      try simp only [Act.put, List.setIfInBounds_toArray, List.set_cons_zero, List.set_cons_succ]
      refine wpAnyT_take (i := 4) (v := ?z454) (by simp; rfl) (by kernel_rfl) (by kernel_rfl) (by kernel_rfl) (by exact fun _ _ _ h => h) (T_waits (by kernel_rfl)) (Or.inl ⟨by rfl, ?yz454⟩) hHeld ?_
      case yz454 => (intro wx hSw; have hSx := Ex1.mk hSw; go_simp; (try with_reducible rfl))
      try simp only [Act.put, List.setIfInBounds_toArray, List.set_cons_zero, List.set_cons_succ]
      refine wpAnyT_take (i := 5) (v := ?z455) (by simp; rfl) (by kernel_rfl) (by kernel_rfl) (by kernel_rfl) (by exact fun _ _ _ h => h) (T_waits (by kernel_rfl)) (Or.inl ⟨by rfl, ?yz455⟩) hHeld ?_
      case yz455 => (intro wx hSw; have hSx := Ex1.mk hSw; go_simp; (try with_reducible rfl))
      try simp only [Act.put, List.setIfInBounds_toArray, List.set_cons_zero, List.set_cons_succ]
      refine wpAnyT_take (i := 6) (v := ?z456) (by simp; rfl) (by kernel_rfl) (by kernel_rfl) (by kernel_rfl) (by exact fun _ _ _ h => h) (T_waits (by kernel_rfl)) (Or.inl ⟨by rfl, ?yz456⟩) hHeld ?_
      case yz456 => (intro wx hSw; have hSx := Ex1.mk hSw; go_simp; (try with_reducible rfl))
      try simp only [Act.put, List.setIfInBounds_toArray, List.set_cons_zero, List.set_cons_succ]
      refine wpAnyT_take (i := 7) (v := ?z457) (by simp; rfl) (by kernel_rfl) (by kernel_rfl) (by kernel_rfl) (by exact fun _ _ _ h => h) (T_waits (by kernel_rfl)) (Or.inl ⟨by rfl, ?yz457⟩) hHeld ?_
      case yz457 => (intro wx hSw; have hSx := Ex1.mk hSw; go_simp; (try with_reducible rfl))
      try simp only [Act.put, List.setIfInBounds_toArray, List.set_cons_zero, List.set_cons_succ]
      refine wpAnyT_take (i := 8) (v := ?z458) (by simp; rfl) (by kernel_rfl) (by kernel_rfl) (by kernel_rfl) (by exact fun _ _ _ h => h) (T_waits (by kernel_rfl)) (Or.inl ⟨by rfl, ?yz458⟩) hHeld ?_
      case yz458 => (intro wx hSw; have hSx := Ex1.mk hSw; go_simp; (try with_reducible rfl))
      try simp only [Act.put, List.setIfInBounds_toArray, List.set_cons_zero, List.set_cons_succ]
      refine wpAnyT_take (i := 9) (v := ?z459) (by simp; rfl) (by kernel_rfl) (by kernel_rfl) (by kernel_rfl) (by exact fun _ _ _ h => h) (T_waits (by kernel_rfl)) (Or.inl ⟨by rfl, ?yz459⟩) hHeld ?_
      case yz459 => (intro wx hSw; have hSx := Ex1.mk hSw; go_simp; (try with_reducible rfl))
      try simp only [Act.put, List.setIfInBounds_toArray, List.set_cons_zero, List.set_cons_succ]
      refine wpAnyT_ready (rs := [10]) (by kernel_rfl) (by simp) ?_
      refine AllT.cons (by simp; rfl) (fun K hK => ?_) AllT.nil
      go_simp
      refine hK.out _ _ (fun h => absurd h (by decide)) ?_
      clear hHeld hK
      intro hHeld
      try simp only [Act.put, List.setIfInBounds_toArray, List.set_cons_zero, List.set_cons_succ]
      refine wpAnyT_take0 (i := 11) (v := ?z460) (by simp; rfl) (by kernel_rfl) (by kernel_rfl) (by kernel_rfl) (by exact fun _ _ _ h => h) (by rfl) (Or.inl ⟨by rfl, ?yz460⟩) ?_
      case yz460 => (intro wx _; go_simp; (try with_reducible rfl))
      try simp only [Act.put, List.setIfInBounds_toArray, List.set_cons_zero, List.set_cons_succ]
      refine wpAnyT_done (by kernel_rfl) ?_ _
      clear hHeld
      go_wp2_with fail
      refine ret_bt rfl Tryz.underlying128 rfl (by kernel_rfl) rfl rfl rfl ?_
      exact LFBRet.fin rfl (by omega) rfl (by omega) rfl (by omega)

end Go.Proofs.YtlameeijogdckaaGreat
