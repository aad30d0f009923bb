/-
  The statements' helpers on tokens and errors; the reference's classes of bytes.
  Printed by a small program (mklex6.py).
-/
import Derived.Test.YtlameeijogdckaaDoorLw5
namespace Go.Proofs.YtlameeijogdckaaDoor
open Go.RowKit

/-- The condition of a drawn region may be narrowed on the way. -/
theorem wpAnyH_narrow {P : Program} {md : Region.Mode} {ops : Array Oper} {Q : Exit → Act → World → Prop} {S S' : World → Prop} (h : ∀ w, S' w → S w) : ∀ (fuel : Nat) (listed : Array Bool) (a : Act) (w : World), wpAnyH P md ops Q S' fuel listed a w → wpAnyH P md ops Q S fuel listed a w
  | 0, _, _, _, k => k
  | fuel + 1, _, _, _, k => ⟨k.1, fun i hi => wpOp_mono (fun a' w' k' => ⟨h _ k'.1, wpAnyH_narrow h fuel _ a' w' k'.2⟩) (k.2 i hi)⟩
theorem ex_narrow {W0 w1 : World} {L : List Nat} (h : Ex W0 L w1) (W : World) (k : Ex w1 [] W) : Ex W0 L W :=
  ⟨Nat.le_trans h.size k.size, fun j hj hL => by rw [k.block j (Nat.lt_of_lt_of_le hj h.size) (fun e => nomatch e)]; exact h.block j hj hL⟩
/-- The error's place and text as the program lays them. -/
abbrev errL (a : Addr) (n c : Nat) (t : List UInt8) : List Value := [.iface 94 (.pointer (some a)), .int .i64 ((n : Nat) : Int), .int .i64 ((c : Nat) : Int), strV t]
set_option maxRecDepth 100000 in
set_option maxHeartbeats 4000000 in
set_option synthInstance.maxSize 100000 in
set_option synthInstance.maxHeartbeats 1000000 in
theorem kindC {w w0 : World} {k : Nat} {aS aL : Addr} [hS : Snt w 0 aS w0] [hL : Snt w 1 aL w0] (hk : k = 1 ∨ k = 2) :
    Calls Tryd.prog 21 #[.int .i64 ((k : Nat) : Int)] w fun e w' => e = .returned (.iface 94 (.pointer (some (sntA aS aL k)))) ∧ w = w' := by
  rcases hk with rfl | rfl
  all_goals
    go_enter Tryd.func21, Tryd.ntmps21
    go_wp2
    go_ret
    exact ⟨rfl, rfl⟩
set_option maxRecDepth 100000 in
set_option maxHeartbeats 4000000 in
set_option synthInstance.maxSize 100000 in
set_option synthInstance.maxHeartbeats 1000000 in
theorem failsC {w w0 : World} {b k n c : Nat} {t : List UInt8} {aS aL : Addr} [hS : Snt w 0 aS w0] [hL : Snt w 1 aL w0] [hE : Gc w 2 eTy w0] [zS : Kz w0 w] [hb : Bx w b 45 (errL (sntA aS aL k) n c t)] (hk : k = 1 ∨ k = 2) :
    Calls Tryd.prog 10 #[.iface 40 (.pointer (some ⟨b, 0, none⟩)), .agg #[.int .i64 ((k : Nat) : Int), .int .i64 ((n : Nat) : Int), .int .i64 ((c : Nat) : Int), strV t]] w fun e w' => e = .returned (.bool true) ∧ Below w.heap.size w w' := by
  go_enter Tryd.func10, Tryd.ntmps10
  go_wp2_with fail
  refine region_cls (by kernel_rfl) [w.heap.size + 1] (fun hHeld => ?_)
  refine wpAnyH_take (i := 0) (v := ?z1) (by simp; rfl) (by kernel_rfl) (by kernel_rfl) (by kernel_rfl) (by exact fun _ _ _ h => h) (Or.inl ⟨by rfl, ?yz1⟩) hHeld ?_
  case yz1 => (intro wx hSw; have hSx := Ex1.mk hSw; go_simp; (try with_reducible rfl))
  try simp only [Act.put, List.setIfInBounds_toArray, List.set_cons_zero, List.set_cons_succ]
  refine wpAnyH_take (i := 1) (v := ?z2) (by simp; rfl) (by kernel_rfl) (by kernel_rfl) (by kernel_rfl) (by exact fun _ _ _ h => h) (Or.inl ⟨by rfl, ?yz2⟩) hHeld ?_
  case yz2 => (intro wx hSw; have hSx := Ex1.mk hSw; go_simp; (try with_reducible rfl))
  try simp only [Act.put, List.setIfInBounds_toArray, List.set_cons_zero, List.set_cons_succ]
  refine wpAnyH_ready (rs := [2]) (by kernel_rfl) (by simp) ?_
  refine AllReadyH.cons (by simp; rfl) (fun K hK => ?_) AllReadyH.nil
  go_simp
  (go_at_call 17; (with_reducible refine Calls.cAs (asC) ?_); intros)
  refine hK.out _ _ inferInstance ?_
  clear hHeld hK K
  intro hHeld
  try simp only [Act.put, List.setIfInBounds_toArray, List.set_cons_zero, List.set_cons_succ]
  refine wpAnyH_narrow (ex_narrow hHeld) _ _ _ _ ?_
  clear hHeld
  have hHeld : Ex _ [] _ := Ex.refl (W := ‹World›)
  refine wpAnyH_take (i := 3) (v := ?z3) (by simp; rfl) (by kernel_rfl) (by kernel_rfl) (by kernel_rfl) (by exact fun _ _ _ h => h) (Or.inl ⟨by rfl, ?yz3⟩) hHeld ?_
  case yz3 => (intro wx hSw; have hSx := Ex1.mk hSw; go_simp; (try with_reducible rfl))
  try simp only [Act.put, List.setIfInBounds_toArray, List.set_cons_zero, List.set_cons_succ]
  refine wpAnyH_take (i := 4) (v := ?z4) (by simp; rfl) (by kernel_rfl) (by kernel_rfl) (by kernel_rfl) (by exact fun _ _ _ h => h) (Or.inl ⟨by rfl, ?yz4⟩) hHeld ?_
  case yz4 => (intro wx hSw; have hSx := Ex1.mk hSw; go_simp; (try with_reducible rfl))
  try simp only [Act.put, List.setIfInBounds_toArray, List.set_cons_zero, List.set_cons_succ]
  refine wpAnyH_take (i := 5) (v := ?z5) (by simp; rfl) (by kernel_rfl) (by kernel_rfl) (by kernel_rfl) (by exact fun _ _ _ h => h) (Or.inl ⟨by rfl, ?yz5⟩) hHeld ?_
  case yz5 => (intro wx hSw; have hSx := Ex1.mk hSw; go_simp; (try with_reducible rfl))
  try simp only [Act.put, List.setIfInBounds_toArray, List.set_cons_zero, List.set_cons_succ]
  refine wpAnyH_take (i := 6) (v := ?z6) (by simp; rfl) (by kernel_rfl) (by kernel_rfl) (by kernel_rfl) (by exact fun _ _ _ h => h) (Or.inl ⟨by rfl, ?yz6⟩) hHeld ?_
  case yz6 => (intro wx hSw; have hSx := Ex1.mk hSw; go_simp; (try with_reducible rfl))
  try simp only [Act.put, List.setIfInBounds_toArray, List.set_cons_zero, List.set_cons_succ]
  refine wpAnyH_ready (rs := [7]) (by kernel_rfl) (by simp) ?_
  refine AllReadyH.cons (by simp; rfl) (fun K hK => ?_) AllReadyH.nil
  go_simp
  (go_at_call 21; (with_reducible refine Calls.cS (kindC hk) ?_); intros)
  refine hK.out _ _ inferInstance ?_
  clear hHeld hK K
  intro hHeld
  try simp only [Act.put, List.setIfInBounds_toArray, List.set_cons_zero, List.set_cons_succ]
  refine wpAnyH_ready (rs := [8]) (by kernel_rfl) (by simp) ?_
  refine AllReadyH.cons (by simp; rfl) (fun K hK => ?_) AllReadyH.nil
  go_simp
  (go_at_call 18; (with_reducible refine Calls.cS (isSameC) ?_); intros)
  refine hK.out _ _ inferInstance ?_
  clear hHeld hK K
  intro hHeld
  try simp only [Act.put, List.setIfInBounds_toArray, List.set_cons_zero, List.set_cons_succ]
  refine wpAnyH_take (i := 9) (v := ?z7) (by simp; rfl) (by kernel_rfl) (by kernel_rfl) (by kernel_rfl) (by exact fun _ _ _ h => h) (Or.inl ⟨by rfl, ?yz7⟩) hHeld ?_
  case yz7 => (intro wx hSw; have hSx := Ex1.mk hSw; go_simp; (try with_reducible rfl))
  try simp only [Act.put, List.setIfInBounds_toArray, List.set_cons_zero, List.set_cons_succ]
  refine wpAnyH_take (i := 10) (v := ?z8) (by simp; rfl) (by kernel_rfl) (by kernel_rfl) (by kernel_rfl) (by exact fun _ _ _ h => h) (Or.inl ⟨by rfl, ?yz8⟩) hHeld ?_
  case yz8 => (intro wx hSw; have hSx := Ex1.mk hSw; go_simp; (try with_reducible rfl))
  try simp only [Act.put, List.setIfInBounds_toArray, List.set_cons_zero, List.set_cons_succ]
  refine wpAnyH_take (i := 11) (v := ?z9) (by simp; rfl) (by kernel_rfl) (by kernel_rfl) (by kernel_rfl) (by exact fun _ _ _ h => h) (Or.inl ⟨by rfl, ?yz9⟩) hHeld ?_
  case yz9 => (intro wx hSw; have hSx := Ex1.mk hSw; go_simp; (try with_reducible rfl))
  try simp only [Act.put, List.setIfInBounds_toArray, List.set_cons_zero, List.set_cons_succ]
  refine wpAnyH_take (i := 12) (v := ?z10) (by simp; rfl) (by kernel_rfl) (by kernel_rfl) (by kernel_rfl) (by exact fun _ _ _ h => h) (Or.inl ⟨by rfl, ?yz10⟩) hHeld ?_
  case yz10 => (intro wx hSw; have hSx := Ex1.mk hSw; go_simp; (try with_reducible rfl))
  try simp only [Act.put, List.setIfInBounds_toArray, List.set_cons_zero, List.set_cons_succ]
  refine wpAnyH_take (i := 13) (v := ?z11) (by simp; rfl) (by kernel_rfl) (by kernel_rfl) (by kernel_rfl) (by exact fun _ _ _ h => h) (Or.inl ⟨by rfl, ?yz11⟩) hHeld ?_
  case yz11 => (intro wx hSw; have hSx := Ex1.mk hSw; go_simp; (try with_reducible rfl))
  try simp only [Act.put, List.setIfInBounds_toArray, List.set_cons_zero, List.set_cons_succ]
  refine wpAnyH_take (i := 14) (v := ?z12) (by simp; rfl) (by kernel_rfl) (by kernel_rfl) (by kernel_rfl) (by exact fun _ _ _ h => h) (Or.inl ⟨by rfl, ?yz12⟩) hHeld ?_
  case yz12 => (intro wx hSw; have hSx := Ex1.mk hSw; go_simp; (try with_reducible rfl))
  try simp only [Act.put, List.setIfInBounds_toArray, List.set_cons_zero, List.set_cons_succ]
  refine wpAnyH_take (i := 15) (v := ?z13) (by simp; rfl) (by kernel_rfl) (by kernel_rfl) (by kernel_rfl) (by exact fun _ _ _ h => h) (Or.inl ⟨by rfl, ?yz13⟩) hHeld ?_
  case yz13 => (intro wx hSw; have hSx := Ex1.mk hSw; go_simp; (try with_reducible rfl))
  try simp only [Act.put, List.setIfInBounds_toArray, List.set_cons_zero, List.set_cons_succ]
  refine wpAnyH_take (i := 16) (v := ?z14) (by simp; rfl) (by kernel_rfl) (by kernel_rfl) (by kernel_rfl) (by exact fun _ _ _ h => h) (Or.inl ⟨by rfl, ?yz14⟩) hHeld ?_
  case yz14 => (intro wx hSw; have hSx := Ex1.mk hSw; go_simp; (try with_reducible rfl))
  try simp only [Act.put, List.setIfInBounds_toArray, List.set_cons_zero, List.set_cons_succ]
  refine wpAnyH_take (i := 17) (v := ?z15) (by simp; rfl) (by kernel_rfl) (by kernel_rfl) (by kernel_rfl) (by exact fun _ _ _ h => h) (Or.inl ⟨by rfl, ?yz15⟩) hHeld ?_
  case yz15 => (intro wx hSw; have hSx := Ex1.mk hSw; go_simp; (try with_reducible rfl))
  try simp only [Act.put, List.setIfInBounds_toArray, List.set_cons_zero, List.set_cons_succ]
  refine wpAnyH_take (i := 18) (v := ?z16) (by simp; rfl) (by kernel_rfl) (by kernel_rfl) (by kernel_rfl) (by exact fun _ _ _ h => h) (Or.inl ⟨by rfl, ?yz16⟩) hHeld ?_
  case yz16 => (intro wx hSw; have hSx := Ex1.mk hSw; go_simp; (try with_reducible rfl))
  try simp only [Act.put, List.setIfInBounds_toArray, List.set_cons_zero, List.set_cons_succ]
  refine wpAnyH_take (i := 19) (v := ?z17) (by simp; rfl) (by kernel_rfl) (by kernel_rfl) (by kernel_rfl) (by exact fun _ _ _ h => h) (Or.inl ⟨by rfl, ?yz17⟩) hHeld ?_
  case yz17 => (intro wx hSw; have hSx := Ex1.mk hSw; go_simp; (try with_reducible rfl))
  try simp only [Act.put, List.setIfInBounds_toArray, List.set_cons_zero, List.set_cons_succ]
  refine wpAnyH_take (i := 20) (v := ?z18) (by simp; rfl) (by kernel_rfl) (by kernel_rfl) (by kernel_rfl) (by exact fun _ _ _ h => h) (Or.inl ⟨by rfl, ?yz18⟩) hHeld ?_
  case yz18 => (intro wx hSw; have hSx := Ex1.mk hSw; go_simp; (try with_reducible rfl))
  try simp only [Act.put, List.setIfInBounds_toArray, List.set_cons_zero, List.set_cons_succ]
  refine wpAnyH_take (i := 21) (v := ?z19) (by simp; rfl) (by kernel_rfl) (by kernel_rfl) (by kernel_rfl) (by exact fun _ _ _ h => h) (Or.inl ⟨by rfl, ?yz19⟩) hHeld ?_
  case yz19 => (intro wx hSw; have hSx := Ex1.mk hSw; go_simp; (try with_reducible rfl))
  try simp only [Act.put, List.setIfInBounds_toArray, List.set_cons_zero, List.set_cons_succ]
  refine wpAnyH_take (i := 22) (v := ?z20) (by simp; rfl) (by kernel_rfl) (by kernel_rfl) (by kernel_rfl) (by exact fun _ _ _ h => h) (Or.inl ⟨by rfl, ?yz20⟩) hHeld ?_
  case yz20 => (intro wx hSw; have hSx := Ex1.mk hSw; go_simp; (try with_reducible rfl))
  try simp only [Act.put, List.setIfInBounds_toArray, List.set_cons_zero, List.set_cons_succ]
  refine wpAnyH_take (i := 23) (v := ?z21) (by simp; rfl) (by kernel_rfl) (by kernel_rfl) (by kernel_rfl) (by exact fun _ _ _ h => h) (Or.inl ⟨by rfl, ?yz21⟩) hHeld ?_
  case yz21 => (intro wx hSw; have hSx := Ex1.mk hSw; go_simp; (try with_reducible rfl))
  try simp only [Act.put, List.setIfInBounds_toArray, List.set_cons_zero, List.set_cons_succ]
  refine wpAnyH_take (i := 24) (v := ?z22) (by simp; rfl) (by kernel_rfl) (by kernel_rfl) (by kernel_rfl) (by exact fun _ _ _ h => h) (Or.inl ⟨by rfl, ?yz22⟩) hHeld ?_
  case yz22 => (intro wx hSw; have hSx := Ex1.mk hSw; go_simp; (try with_reducible rfl))
  try simp only [Act.put, List.setIfInBounds_toArray, List.set_cons_zero, List.set_cons_succ]
  refine wpAnyH_take (i := 25) (v := ?z23) (by simp; rfl) (by kernel_rfl) (by kernel_rfl) (by kernel_rfl) (by exact fun _ _ _ h => h) (Or.inl ⟨by rfl, ?yz23⟩) hHeld ?_
  case yz23 => (intro wx hSw; have hSx := Ex1.mk hSw; go_simp; (try with_reducible rfl))
  try simp only [Act.put, List.setIfInBounds_toArray, List.set_cons_zero, List.set_cons_succ]
  refine wpAnyH_take (i := 26) (v := ?z24) (by simp; rfl) (by kernel_rfl) (by kernel_rfl) (by kernel_rfl) (by exact fun _ _ _ h => h) (Or.inl ⟨by rfl, ?yz24⟩) hHeld ?_
  case yz24 => (intro wx hSw; have hSx := Ex1.mk hSw; go_simp; (try with_reducible rfl))
  try simp only [Act.put, List.setIfInBounds_toArray, List.set_cons_zero, List.set_cons_succ]
  refine wpAnyH_take (i := 27) (v := ?z25) (by simp; rfl) (by kernel_rfl) (by kernel_rfl) (by kernel_rfl) (by exact fun _ _ _ h => h) (Or.inl ⟨by rfl, ?yz25⟩) hHeld ?_
  case yz25 => (intro wx hSw; have hSx := Ex1.mk hSw; go_simp; (try with_reducible rfl))
  try simp only [Act.put, List.setIfInBounds_toArray, List.set_cons_zero, List.set_cons_succ]
  refine wpAnyH_take (i := 28) (v := ?z26) (by simp; rfl) (by kernel_rfl) (by kernel_rfl) (by kernel_rfl) (by exact fun _ _ _ h => h) (Or.inl ⟨by rfl, ?yz26⟩) hHeld ?_
  case yz26 => (intro wx hSw; have hSx := Ex1.mk hSw; go_simp; (try with_reducible rfl))
  try simp only [Act.put, List.setIfInBounds_toArray, List.set_cons_zero, List.set_cons_succ]
  refine wpAnyH_take (i := 29) (v := ?z27) (by simp; rfl) (by kernel_rfl) (by kernel_rfl) (by kernel_rfl) (by exact fun _ _ _ h => h) (Or.inl ⟨by rfl, ?yz27⟩) hHeld ?_
  case yz27 => (intro wx hSw; have hSx := Ex1.mk hSw; go_simp; (try with_reducible rfl))
  try simp only [Act.put, List.setIfInBounds_toArray, List.set_cons_zero, List.set_cons_succ]
  refine wpAnyH_take (i := 30) (v := ?z28) (by simp; rfl) (by kernel_rfl) (by kernel_rfl) (by kernel_rfl) (by exact fun _ _ _ h => h) (Or.inl ⟨by rfl, ?yz28⟩) hHeld ?_
  case yz28 => (intro wx hSw; have hSx := Ex1.mk hSw; go_simp; (try with_reducible rfl))
  try simp only [Act.put, List.setIfInBounds_toArray, List.set_cons_zero, List.set_cons_succ]
  refine wpAnyH_take (i := 31) (v := ?z29) (by simp; rfl) (by kernel_rfl) (by kernel_rfl) (by kernel_rfl) (by exact fun _ _ _ h => h) (Or.inl ⟨by rfl, ?yz29⟩) hHeld ?_
  case yz29 => (intro wx hSw; have hSx := Ex1.mk hSw; go_simp; (try with_reducible rfl))
  try simp only [Act.put, List.setIfInBounds_toArray, List.set_cons_zero, List.set_cons_succ]
  refine wpAnyH_take (i := 32) (v := ?z30) (by simp; rfl) (by kernel_rfl) (by kernel_rfl) (by kernel_rfl) (by exact fun _ _ _ h => h) (Or.inl ⟨by rfl, ?yz30⟩) hHeld ?_
  case yz30 => (intro wx hSw; have hSx := Ex1.mk hSw; go_simp; (try with_reducible rfl))
  try simp only [Act.put, List.setIfInBounds_toArray, List.set_cons_zero, List.set_cons_succ]
  refine wpAnyH_take (i := 33) (v := ?z31) (by simp; rfl) (by kernel_rfl) (by kernel_rfl) (by kernel_rfl) (by exact fun _ _ _ h => h) (Or.inl ⟨by rfl, ?yz31⟩) hHeld ?_
  case yz31 => (intro wx hSw; have hSx := Ex1.mk hSw; go_simp; (try with_reducible rfl))
  try simp only [Act.put, List.setIfInBounds_toArray, List.set_cons_zero, List.set_cons_succ]
  refine wpAnyH_take (i := 34) (v := ?z32) (by simp; rfl) (by kernel_rfl) (by kernel_rfl) (by kernel_rfl) (by exact fun _ _ _ h => h) (Or.inl ⟨by rfl, ?yz32⟩) hHeld ?_
  case yz32 => (intro wx hSw; have hSx := Ex1.mk hSw; go_simp; (try with_reducible rfl))
  try simp only [Act.put, List.setIfInBounds_toArray, List.set_cons_zero, List.set_cons_succ]
  refine wpAnyH_take (i := 35) (v := ?z33) (by simp; rfl) (by kernel_rfl) (by kernel_rfl) (by kernel_rfl) (by exact fun _ _ _ h => h) (Or.inl ⟨by rfl, ?yz33⟩) hHeld ?_
  case yz33 => (intro wx hSw; have hSx := Ex1.mk hSw; go_simp; (try with_reducible rfl))
  try simp only [Act.put, List.setIfInBounds_toArray, List.set_cons_zero, List.set_cons_succ]
  refine wpAnyH_take (i := 36) (v := ?z34) (by simp; rfl) (by kernel_rfl) (by kernel_rfl) (by kernel_rfl) (by exact fun _ _ _ h => h) (Or.inl ⟨by rfl, ?yz34⟩) hHeld ?_
  case yz34 => (intro wx hSw; have hSx := Ex1.mk hSw; go_simp; (try with_reducible rfl))
  try simp only [Act.put, List.setIfInBounds_toArray, List.set_cons_zero, List.set_cons_succ]
  refine wpAnyH_take (i := 37) (v := ?z35) (by simp; rfl) (by kernel_rfl) (by kernel_rfl) (by kernel_rfl) (by exact fun _ _ _ h => h) (Or.inl ⟨by rfl, ?yz35⟩) hHeld ?_
  case yz35 => (intro wx hSw; have hSx := Ex1.mk hSw; go_simp; (try with_reducible rfl))
  try simp only [Act.put, List.setIfInBounds_toArray, List.set_cons_zero, List.set_cons_succ]
  refine wpAnyH_done (by kernel_rfl) ?_ _
  clear hHeld
  go_wp2
  go_ret
  exact E.fin rfl
theorem tokEr1 {w w0 : World} {s : ByteArray} {aS aL : Addr} {n c : Nat} {t : List UInt8} [hS : Snt w 0 aS w0] [hL : Snt w 1 aL w0] [zS : Kz w0 w] (b : s.size ≤ 60000) (h : Hid (tkS s = .er 1 n c t)) :
    Calls Tryd.prog 8 #[.string s] w (TokErr w aS n c t) := tokEr b h
set_option maxRecDepth 100000 in
set_option maxHeartbeats 4000000 in
set_option synthInstance.maxSize 100000 in
set_option synthInstance.maxHeartbeats 1000000 in
theorem knownC {w w0 : World} {aS aL : Addr} [hS : Snt w 0 aS w0] [hL : Snt w 1 aL w0] [hE : Gc w 2 eTy w0] [zS : Kz w0 w] :
    Calls Tryd.prog 7 #[] w fun e w' => e = .returned (.bool true) ∧ Below w.heap.size w w' := by
  have HT : Hid (tkS ⟨#[97, 32, 64]⟩ = .er 1 1 3 [64]) := by show _ = _; kernel_rfl
  go_enter Tryd.func7, Tryd.ntmps7
  go_wp2_with (first
    | (go_at_call 8; (with_reducible refine Calls.cTErr (tokEr1 (by decide) HT) ?_); intro w1 i1 b1 i2 _)
    | (go_at_call 17; (with_reducible refine Calls.cAs asC ?_); intros)
    | (go_at_call 18; (with_reducible refine Calls.cS isSameC ?_); intros))
  go_ret
  exact E.fin rfl
set_option maxRecDepth 100000 in
set_option maxHeartbeats 4000000 in
set_option synthInstance.maxSize 100000 in
set_option synthInstance.maxHeartbeats 1000000 in
theorem refLetterV {w : World} {b : UInt8} {v : Bool} (hv : Hid (isLetter b = v)) : Calls Tryd.prog 13 #[.int .u8 (b.toNat : Int)] w fun e w' => e = .returned (.bool v) ∧ w = w' := by
  have hb := b.toNat_lt
  have hv' := hv.out
  clear hv
  unfold isLetter at hv'
  generalize b.toNat = n at *
  have Q : n ≠ 95 → ((n : Int) == 95) = false := fun h => by rw [beq_eq_false_iff_ne]; omega
  rcases (show (n = 95) ∨ (n ≠ 95 ∧ 97 ≤ n ∧ n ≤ 122) ∨ (n ≠ 95 ∧ 122 < n) ∨ (n ≠ 95 ∧ 65 ≤ n ∧ n ≤ 90) ∨ (n ≠ 95 ∧ n < 65) ∨ (n ≠ 95 ∧ 90 < n ∧ n < 97) by omega) with rfl | ⟨c1, c2, c3⟩ | ⟨c1, c2⟩ | ⟨c1, c2, c3⟩ | ⟨c1, c2⟩ | ⟨c1, c2, c3⟩
  · have HV : v = true := by rw [← hv']; rfl
    subst HV
    clear hv' Q
    go_enter Tryd.func13, Tryd.ntmps13
    go_wp2
    go_ret
    exact ⟨rfl, rfl⟩
  · have HV : v = true := by rw [← hv']; simp; omega
    subst HV
    have q := Q c1
    have d1 : decide ((n : Int) ≤ 122) = true := decide_eq_true (by omega)
    clear hv' Q c1
    go_enter Tryd.func13, Tryd.ntmps13
    go_wp2
    go_ret
    exact ⟨rfl, rfl⟩
  · have HV : v = false := by rw [← hv']; simp; omega
    subst HV
    have q := Q c1
    have d1 : decide ((n : Int) ≤ 122) = false := decide_eq_false (by omega)
    have d2 : decide ((n : Int) ≤ 90) = false := decide_eq_false (by omega)
    clear hv' Q c1
    go_enter Tryd.func13, Tryd.ntmps13
    go_wp2
    go_ret
    exact ⟨rfl, rfl⟩
  · have HV : v = true := by rw [← hv']; simp; omega
    subst HV
    have q := Q c1
    have c4 : n < 97 := by omega
    have d2 : decide ((n : Int) ≤ 90) = true := decide_eq_true (by omega)
    clear hv' Q c1
    go_enter Tryd.func13, Tryd.ntmps13
    go_wp2
    go_ret
    exact ⟨rfl, rfl⟩
  · have HV : v = false := by rw [← hv']; simp; omega
    subst HV
    have q := Q c1
    clear hv' Q c1
    go_enter Tryd.func13, Tryd.ntmps13
    go_wp2
    go_ret
    exact ⟨rfl, rfl⟩
  · have HV : v = false := by rw [← hv']; simp; omega
    subst HV
    have q := Q c1
    have d2 : decide ((n : Int) ≤ 90) = false := decide_eq_false (by omega)
    clear hv' Q c1
    go_enter Tryd.func13, Tryd.ntmps13
    go_wp2
    go_ret
    exact ⟨rfl, rfl⟩
set_option maxRecDepth 100000 in
set_option maxHeartbeats 4000000 in
set_option synthInstance.maxSize 100000 in
set_option synthInstance.maxHeartbeats 1000000 in
theorem refDigitV {w : World} {b : UInt8} {v : Bool} (hv : Hid (isDg b = v)) : Calls Tryd.prog 20 #[.int .u8 (b.toNat : Int)] w fun e w' => e = .returned (.bool v) ∧ w = w' := by
  have hv' := hv.out
  clear hv
  unfold isDg at hv'
  generalize b.toNat = n at *
  rcases (show (48 ≤ n ∧ n ≤ 57) ∨ n < 48 ∨ 57 < n by omega) with ⟨c1, c2⟩ | c1 | c1
  · have HV : v = true := by rw [← hv']; simp; omega
    subst HV
    have d1 : decide ((n : Int) ≤ 57) = true := decide_eq_true (by omega)
    clear hv'
    go_enter Tryd.func20, Tryd.ntmps20
    go_wp2
    go_ret
    exact ⟨rfl, rfl⟩
  · have HV : v = false := by rw [← hv']; simp; omega
    subst HV
    have d1 : decide ((48 : Int) ≤ n) = false := decide_eq_false (by omega)
    clear hv'
    go_enter Tryd.func20, Tryd.ntmps20
    go_wp2
    go_ret
    exact ⟨rfl, rfl⟩
  · have HV : v = false := by rw [← hv']; simp; omega
    subst HV
    have d1 : decide ((n : Int) ≤ 57) = false := decide_eq_false (by omega)
    clear hv'
    go_enter Tryd.func20, Tryd.ntmps20
    go_wp2
    go_ret
    exact ⟨rfl, rfl⟩
theorem sg_get : ∀ k : Fin 13, byteAt ⟨#[40, 41, 123, 125, 44, 59, 61, 43, 45, 42, 47, 94, 126]⟩ k.val = signL.getD k.val 0 := by decide
theorem sg_step {b : UInt8} {k : Nat} (h : k < 13) : (signL.drop k).contains b = ((byteAt ⟨#[40, 41, 123, 125, 44, 59, 61, 43, 45, 42, 47, 94, 126]⟩ k == b) || (signL.drop (k + 1)).contains b) := by
  have e := sg_get ⟨k, h⟩
  have hl : k < signL.length := h
  rw [List.drop_eq_getElem_cons hl, List.contains_cons]
  simp only at e
  rw [e, List.getD_eq_getElem?_getD, List.getElem?_eq_getElem hl, Option.getD_some]
  congr 1
  rw [Bool.eq_iff_iff, beq_iff_eq, beq_iff_eq]; exact eq_comm
set_option maxRecDepth 100000 in
set_option maxHeartbeats 4000000 in
set_option synthInstance.maxSize 100000 in
set_option synthInstance.maxHeartbeats 1000000 in
theorem refSignV {w : World} {b : UInt8} {v : Bool} (hv : Hid (isSg b = v)) : Calls Tryd.prog 15 #[.int .u8 (b.toNat : Int)] w fun e w' => e = .returned (.bool v) ∧ w = w' := by
  go_enter Tryd.func15, Tryd.ntmps15
  go_wp2_with fail
  go_loopw [4] (fun i wr => ∃ k : Nat, i = .int .i64 (k : Int) ∧ k ≤ 13 ∧ w = wr ∧ Hid ((signL.drop k).contains b = v)) (fun i _ => 13 - (intOf i).toNat)
  case atStart => exact ⟨0, rfl, by omega, rfl, hv⟩
  case round =>
    obtain ⟨k, rfl, hk, rfl, hR⟩ := hrel
    by_cases hlt : k < 13
    · have hix := ix_str ⟨#[40, 41, 123, 125, 44, 59, 61, 43, 45, 42, 47, 94, 126]⟩ k hlt
      have hlt' : (k : Int) < 13 := by omega
      have hs := @sg_step b k hlt
      have ew : IntKind.i64.wrap ((k : Int) + 1) = (k : Int) + 1 := wr_in (by omega) (by omega)
      generalize byteAt ⟨#[40, 41, 123, 125, 44, 59, 61, 43, 45, 42, 47, 94, 126]⟩ k = x at *
      by_cases hx : x = b
      · subst hx
        have HV : v = true := by rw [← hR.out, hs]; simp
        subst HV
        clear hs hR
        go_wp2_with fail
        go_ret
        exact ⟨rfl, rfl⟩
      · have q : ((x.toNat : Int) == (b.toNat : Int)) = false := by
          rw [beq_eq_false_iff_ne]
          exact fun e => hx (UInt8.toNat_inj.1 (by omega))
        have HR : Hid ((signL.drop (k + 1)).contains b = v) := by
          show _ = _
          rw [← hR.out, hs, beq_eq_false_iff_ne.2 hx, Bool.false_or]
        clear hs hR hx
        go_wp2_with fail
        go_roundw
        case rel => exact ⟨k + 1, by go_num, by omega, trivial, HR⟩
        case measure => simp [intOf]; omega
    · have e : k = 13 := by omega
      subst e
      have HV : v = false := by rw [← hR.out]; rfl
      subst HV
      clear hR
      go_wp2_with fail
      go_ret
      exact ⟨rfl, rfl⟩
def cls35 (b : UInt8) : Bool := ((cls b == 3) == isLetter b) && ((cls b == 5) == isSg b)
theorem cls35_all : ∀ n : Fin 256, cls35 (UInt8.ofNat n.val) = true := by decide +kernel
theorem cls35_ok (b : UInt8) : cls35 b = true := by
  have := cls35_all ⟨b.toNat, b.toNat_lt⟩
  rwa [UInt8.ofNat_toNat] at this
theorem cls3 (b : UInt8) : (cls b == 3) = isLetter b := by have := cls35_ok b; simp only [cls35, Bool.and_eq_true, beq_iff_eq] at this; exact this.1
theorem cls5 (b : UInt8) : (cls b == 5) = isSg b := by have := cls35_ok b; simp only [cls35, Bool.and_eq_true, beq_iff_eq] at this; exact this.2
set_option maxRecDepth 100000 in
set_option maxHeartbeats 4000000 in
set_option synthInstance.maxSize 100000 in
set_option synthInstance.maxHeartbeats 1000000 in
theorem lexLetterC {w : World} {b : UInt8} {v : Bool} (hv : Hid (isLetter b = v)) : Calls Tryd.prog 12 #[.int .u8 (b.toNat : Int)] w fun e w' => e = .returned (.bool v) ∧ w = w' := by
  have h : (cls b == 3) = v := by rw [← hv.out]; exact cls3 b
  obtain ⟨c, hc⟩ : ∃ c, cls b = c := ⟨_, rfl⟩
  rw [hc] at h
  have HC := Lib.hid hc
  clear hc hv
  go_enter Tryd.func12, Tryd.ntmps12
  go_wp2_with (go_at_call 22; (with_reducible refine Calls.cS (classOfV HC) ?_); intros)
  go_ret
  exact ⟨rfl, rfl⟩
set_option maxRecDepth 100000 in
set_option maxHeartbeats 4000000 in
set_option synthInstance.maxSize 100000 in
set_option synthInstance.maxHeartbeats 1000000 in
theorem lexSignC {w : World} {b : UInt8} {v : Bool} (hv : Hid (isSg b = v)) : Calls Tryd.prog 14 #[.int .u8 (b.toNat : Int)] w fun e w' => e = .returned (.bool v) ∧ w = w' := by
  have h : (cls b == 5) = v := by rw [← hv.out]; exact cls5 b
  obtain ⟨c, hc⟩ : ∃ c, cls b = c := ⟨_, rfl⟩
  rw [hc] at h
  have HC := Lib.hid hc
  clear hc hv
  go_enter Tryd.func14, Tryd.ntmps14
  go_wp2_with (go_at_call 22; (with_reducible refine Calls.cS (classOfV HC) ?_); intros)
  go_ret
  exact ⟨rfl, rfl⟩
set_option maxRecDepth 100000 in
set_option maxHeartbeats 4000000 in
set_option synthInstance.maxSize 100000 in
set_option synthInstance.maxHeartbeats 1000000 in
theorem lexerBytes_walk' {w w0 : World} {b : UInt8} {aS aL : Addr} [hS : Snt w 0 aS w0] [hL : Snt w 1 aL w0] [hE : Gc w 2 eTy w0] [zS : Kz w0 w] :
    Calls Tryd.prog 5 #[.int .u8 (b.toNat : Int)] w fun e w' => e = .returned (.bool true) ∧ Below w.heap.size w w' := by
  obtain ⟨v, hv⟩ : ∃ v, isLetter b = v := ⟨_, rfl⟩
  obtain ⟨u, hu⟩ : ∃ u, isSg b = u := ⟨_, rfl⟩
  have HV := Lib.hid hv
  have HU := Lib.hid hu
  clear hv hu
  go_enter Tryd.func5, Tryd.ntmps5
  go_wp2_with (first
    | (go_at_call 7; (with_reducible refine Calls.cE knownC ?_); intros)
    | (go_at_call 12; (with_reducible refine Calls.cS (lexLetterC HV) ?_); intros)
    | (go_at_call 13; (with_reducible refine Calls.cS (refLetterV HV) ?_); intros)
    | (go_at_call 14; (with_reducible refine Calls.cS (lexSignC HU) ?_); intros)
    | (go_at_call 15; (with_reducible refine Calls.cS (refSignV HU) ?_); intros))
  go_ret
  exact E.fin rfl
end Go.Proofs.YtlameeijogdckaaDoor
