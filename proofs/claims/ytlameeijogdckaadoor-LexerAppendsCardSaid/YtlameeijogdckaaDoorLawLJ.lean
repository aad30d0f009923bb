/-
  The statement LexerJoins: its walk.
  Printed by a small program (mklex9.py).
-/
import Derived.Test.YtlameeijogdckaaDoorLawLT
namespace Go.Proofs.YtlameeijogdckaaDoor
open Go.RowKit

theorem map_tg {L M : List Tk} (h : M.map kt = L.map kt) {k : Nat} (hk : k < L.length) : (tg M k).kind = (tg L k).kind ∧ (tg M k).text = (tg L k).text := by
  have hl : M.length = L.length := by have := congrArg List.length h; simpa using this
  have h1 : (M.map kt)[k]? = (L.map kt)[k]? := by rw [h]
  rw [List.getElem?_map, List.getElem?_map, tg_get hk, tg_get (by omega), Option.map_some, Option.map_some] at h1
  injection h1 with h1
  injection h1 with h1 h2
  exact ⟨h1, h2⟩
theorem joinL_take {L : List Tk} {k : Nat} (hk : k < L.length) : joinL (L.take (k + 1)) = joinL (L.take k) ++ ((tg L k).text ++ [32]) := by
  rw [List.take_add_one, tg_get hk, Option.toList_some, joinL_snoc]
theorem joinL_le (L : List Tk) (k : Nat) : (joinL (L.take k)).length ≤ (joinL L).length := by
  have h : joinL L = joinL (L.take k) ++ joinL (L.drop k) := by rw [← joinL_app, List.take_append_drop]
  rw [h, List.length_append]; omega
theorem Calls.cTj {P : Program} {f : FuncId} {args : Array Value} {w : World} {L : List Tk} {n : Nat} {err : Value} {K : Ending → World → Prop} (h : Calls P f args w (TokRet w L err)) (h0 : L ≠ []) (hn : L.length = n)
    (hK : ∀ w' [Kp1 w w'] (g c : Nat) [TkAt w' g L w'], K (.returned (.tuple #[.slice (some ⟨g, 0, none⟩) n c, err])) w') : Calls P f args w K := by
  refine h.mono ?_
  rintro e w' ⟨a, n, c, rfl, hx, hb⟩
  obtain rfl := hx.len
  subst hn
  obtain ⟨g, rfl, hg⟩ := TkAt.of hx h0
  exact @hK w' ⟨hb⟩ g c hg
set_option maxRecDepth 100000 in
set_option maxHeartbeats 4000000 in
set_option synthInstance.maxSize 100000 in
set_option synthInstance.maxHeartbeats 1000000 in
theorem lexerJoins_walk' {w w0 : World} {s : ByteArray} {aS aL : Addr} [hS : Snt w 0 aS w0] [hL : Snt w 1 aL w0] [hE : Gc w 2 eTy w0] [zS : Kz w0 w] : Calls Tryd.prog 4 #[.string s] w fun e w' => e = .returned (.bool true) ∧ Below w.heap.size w w' := by
  by_cases hs : s.size ≤ 3000
  · have hs' : (s.size : Int) ≤ 3000 := by omega
    cases hT : tkS s with
    | ok L =>
      have HT := Lib.hid hT
      have hl := tkS_small hT
      obtain ⟨M, hM, hk⟩ := toks_join _ _ _ _ L (Nat.lt_succ_self _) hT 1 1
      have HM : Hid (tkS ⟨(joinL L).toArray⟩ = .ok M) := hM
      have h0 : L ≠ [] := ok_ne _ _ _ _ L (Nat.lt_succ_self _) hT
      have hml : M.length = L.length := by have := congrArg List.length hk; simpa using this
      have hm0 : M ≠ [] := by rintro rfl; exact h0 (List.eq_nil_of_length_eq_zero (by simpa using hml.symm))
      have hL0 : 0 < L.length := List.length_pos_iff.2 h0
      have q0 : ((L.length : Int) == 0) = false := by rw [beq_eq_false_iff_ne]; omega
      have HKM := Lib.hid hk
      have HML := Lib.hid hml
      have HH := Lib.hid (And.intro h0 hm0)
      obtain ⟨l1, l2⟩ := hl
      clear hT hM hk hml h0 hm0
      go_enter Tryd.func4, Tryd.ntmps4
      go_wp2_with (first
      | (go_at_call 8; (with_reducible refine Calls.cTj (tokOk (by omega) HT) HH.out.1 (rfl) ?_); intro w1 iw1 g1 cw1 ig1))
      go_loopw [5, 30] (fun tx i wr => ∃ k : Nat, i = .int .i64 ((k : Nat) : Int) ∧ k ≤ L.length ∧ tx = strV (joinL (L.take k)) ∧ TkAt wr g1 L w1 ∧ Kp w wr) (fun _ i _ => L.length - (intOf i).toNat)
      case atStart => exact ⟨0, rfl, by omega, by simp [joinL], inferInstance, inferInstance⟩
      case round =>
        obtain ⟨k, rfl, k1, rfl, j1, j2⟩ := hrel
        have kw := Kp1.mk j2.out
        by_cases klt : k < L.length
        · have klt' : (k : Int) < L.length := by omega
          have ew : IntKind.i64.wrap ((k : Int) + 1) = (k : Int) + 1 := wr_in (by omega) (by omega)
          have HJ := Lib.hid (joinL_take klt)
          have b1 := joinL_le L k
          have b2 := joinL_le L (k + 1)
          rw [HJ.out, List.length_append, List.length_append] at b2
          have a1 : ∀ W : World, (Op.stringOp .add ⟨(tg L k).text.toArray⟩ ⟨#[32]⟩).run Tryd.prog W = .ok (strV ((tg L k).text ++ [32])) W := fun W => run_string_add_lists (x := (tg L k).text) (y := [32]) W (by omega) (by decide)
          have a2 : ∀ W : World, (Op.stringOp .add ⟨(joinL (L.take k)).toArray⟩ ⟨((tg L k).text ++ [32]).toArray⟩).run Tryd.prog W = .ok (strV (joinL (L.take k) ++ ((tg L k).text ++ [32]))) W := fun W => run_string_add_lists (x := joinL (L.take k)) (y := (tg L k).text ++ [32]) W (by omega) (by have e32 : ([32] : List UInt8).length = 1 := rfl; rw [List.length_append]; omega)
          generalize hX : joinL (L.take k) = X at *
          clear hX
          go_wp2_with fail
          go_roundw
          case rel => exact ⟨k + 1, by go_num, by omega, by rw [HJ.out], inferInstance, inferInstance⟩
          case measure => simp [intOf]; omega
        · have klt' : (L.length : Int) ≤ (k : Int) := by omega
          obtain rfl : k = L.length := by omega
          have hsz : (ByteArray.mk (joinL L).toArray).size ≤ 60000 := by show (joinL L).length ≤ 60000; omega
          rw [List.take_length]
          go_wp2_with (first
      | (go_at_call 8; (with_reducible refine Calls.cTj (tokOk (hsz) HM) HH.out.2 (HML.out) ?_); intro w3 iw3 g3 cw3 ig3))
          go_loopw [61] (fun i wx => ∃ k : Nat, i = .int .i64 ((k : Nat) : Int) ∧ k ≤ L.length ∧ TkAt wx g1 L w1 ∧ TkAt wx g3 M w3 ∧ Kp w wx) (fun i _ => L.length - (intOf i).toNat)
          case atStart => exact ⟨0, rfl, by omega, inferInstance, inferInstance, inferInstance⟩
          case round =>
            obtain ⟨k, rfl, k1, j1, j2, j3⟩ := hrel
            have kw := Kp1.mk j3.out
            have zz : Kz w0 wr := ⟨Nat.le_trans zS.out j3.out.size⟩
            by_cases klt : k < L.length
            · have klt' : (k : Int) < L.length := by omega
              have kltm : k < M.length := by rw [HML.out]; exact klt
              have ew : IntKind.i64.wrap ((k : Int) + 1) = (k : Int) + 1 := wr_in (by omega) (by omega)
              have h1 := (map_tg HKM.out klt).1
              have h2 := (map_tg HKM.out klt).2
              go_wp2_with fail
              refine region_cls (by kernel_rfl) [] (fun hHeld => ?_)
              refine wpAnyH_take (i := 0) (v := ?z1) (by simp; rfl) (by kernel_rfl) (by kernel_rfl) (by kernel_rfl) (by exact fun _ _ _ h => h) (Or.inl ⟨by rfl, ?yz1⟩) hHeld ?_
              case yz1 => (intro wx hSw; have hSx := Ex1.mk hSw; go_simp; (try with_reducible rfl))
              try simp only [Act.put, List.setIfInBounds_toArray, List.set_cons_zero, List.set_cons_succ]
              refine wpAnyH_take (i := 1) (v := ?z2) (by simp; rfl) (by kernel_rfl) (by kernel_rfl) (by kernel_rfl) (by exact fun _ _ _ h => h) (Or.inl ⟨by rfl, ?yz2⟩) hHeld ?_
              case yz2 => (intro wx hSw; have hSx := Ex1.mk hSw; go_simp; (try with_reducible rfl))
              try simp only [Act.put, List.setIfInBounds_toArray, List.set_cons_zero, List.set_cons_succ]
              refine wpAnyH_take (i := 2) (v := ?z3) (by simp; rfl) (by kernel_rfl) (by kernel_rfl) (by kernel_rfl) (by exact fun _ _ _ h => h) (Or.inl ⟨by rfl, ?yz3⟩) hHeld ?_
              case yz3 => (intro wx hSw; have hSx := Ex1.mk hSw; go_simp; (try with_reducible rfl))
              try simp only [Act.put, List.setIfInBounds_toArray, List.set_cons_zero, List.set_cons_succ]
              refine wpAnyH_take (i := 3) (v := ?z4) (by simp; rfl) (by kernel_rfl) (by kernel_rfl) (by kernel_rfl) (by exact fun _ _ _ h => h) (Or.inl ⟨by rfl, ?yz4⟩) hHeld ?_
              case yz4 => (intro wx hSw; have hSx := Ex1.mk hSw; go_simp; (try with_reducible rfl))
              try simp only [Act.put, List.setIfInBounds_toArray, List.set_cons_zero, List.set_cons_succ]
              refine wpAnyH_take (i := 4) (v := ?z5) (by simp; rfl) (by kernel_rfl) (by kernel_rfl) (by kernel_rfl) (by exact fun _ _ _ h => h) (Or.inl ⟨by rfl, ?yz5⟩) hHeld ?_
              case yz5 => (intro wx hSw; have hSx := Ex1.mk hSw; go_simp; (try with_reducible rfl))
              try simp only [Act.put, List.setIfInBounds_toArray, List.set_cons_zero, List.set_cons_succ]
              refine wpAnyH_take (i := 5) (v := ?z6) (by simp; rfl) (by kernel_rfl) (by kernel_rfl) (by kernel_rfl) (by exact fun _ _ _ h => h) (Or.inl ⟨by rfl, ?yz6⟩) hHeld ?_
              case yz6 => (intro wx hSw; have hSx := Ex1.mk hSw; go_simp; (try with_reducible rfl))
              try simp only [Act.put, List.setIfInBounds_toArray, List.set_cons_zero, List.set_cons_succ]
              refine wpAnyH_take (i := 6) (v := ?z7) (by simp; rfl) (by kernel_rfl) (by kernel_rfl) (by kernel_rfl) (by exact fun _ _ _ h => h) (Or.inl ⟨by rfl, ?yz7⟩) hHeld ?_
              case yz7 => (intro wx hSw; have hSx := Ex1.mk hSw; go_simp; (try with_reducible rfl))
              try simp only [Act.put, List.setIfInBounds_toArray, List.set_cons_zero, List.set_cons_succ]
              refine wpAnyH_take (i := 7) (v := ?z8) (by simp; rfl) (by kernel_rfl) (by kernel_rfl) (by kernel_rfl) (by exact fun _ _ _ h => h) (Or.inl ⟨by rfl, ?yz8⟩) hHeld ?_
              case yz8 => (intro wx hSw; have hSx := Ex1.mk hSw; go_simp; (try with_reducible rfl))
              try simp only [Act.put, List.setIfInBounds_toArray, List.set_cons_zero, List.set_cons_succ]
              refine wpAnyH_take (i := 8) (v := ?z9) (by simp; rfl) (by kernel_rfl) (by kernel_rfl) (by kernel_rfl) (by exact fun _ _ _ h => h) (Or.inl ⟨by rfl, ?yz9⟩) hHeld ?_
              case yz9 => (intro wx hSw; have hSx := Ex1.mk hSw; go_simp; (try with_reducible rfl))
              try simp only [Act.put, List.setIfInBounds_toArray, List.set_cons_zero, List.set_cons_succ]
              refine wpAnyH_take (i := 9) (v := ?z10) (by simp; rfl) (by kernel_rfl) (by kernel_rfl) (by kernel_rfl) (by exact fun _ _ _ h => h) (Or.inl ⟨by rfl, ?yz10⟩) hHeld ?_
              case yz10 => (intro wx hSw; have hSx := Ex1.mk hSw; go_simp; (try with_reducible rfl))
              try simp only [Act.put, List.setIfInBounds_toArray, List.set_cons_zero, List.set_cons_succ]
              refine wpAnyH_take (i := 10) (v := ?z11) (by simp; rfl) (by kernel_rfl) (by kernel_rfl) (by kernel_rfl) (by exact fun _ _ _ h => h) (Or.inl ⟨by rfl, ?yz11⟩) hHeld ?_
              case yz11 => (intro wx hSw; have hSx := Ex1.mk hSw; go_simp; (try with_reducible rfl))
              try simp only [Act.put, List.setIfInBounds_toArray, List.set_cons_zero, List.set_cons_succ]
              refine wpAnyH_take (i := 11) (v := ?z12) (by simp; rfl) (by kernel_rfl) (by kernel_rfl) (by kernel_rfl) (by exact fun _ _ _ h => h) (Or.inl ⟨by rfl, ?yz12⟩) hHeld ?_
              case yz12 => (intro wx hSw; have hSx := Ex1.mk hSw; go_simp; (try with_reducible rfl))
              try simp only [Act.put, List.setIfInBounds_toArray, List.set_cons_zero, List.set_cons_succ]
              refine wpAnyH_take (i := 12) (v := ?z13) (by simp; rfl) (by kernel_rfl) (by kernel_rfl) (by kernel_rfl) (by exact fun _ _ _ h => h) (Or.inl ⟨by rfl, ?yz13⟩) hHeld ?_
              case yz13 => (intro wx hSw; have hSx := Ex1.mk hSw; go_simp; (try with_reducible rfl))
              try simp only [Act.put, List.setIfInBounds_toArray, List.set_cons_zero, List.set_cons_succ]
              refine wpAnyH_take (i := 13) (v := ?z14) (by simp; rfl) (by kernel_rfl) (by kernel_rfl) (by kernel_rfl) (by exact fun _ _ _ h => h) (Or.inl ⟨by rfl, ?yz14⟩) hHeld ?_
              case yz14 => (intro wx hSw; have hSx := Ex1.mk hSw; go_simp; (try with_reducible rfl))
              try simp only [Act.put, List.setIfInBounds_toArray, List.set_cons_zero, List.set_cons_succ]
              refine wpAnyH_take (i := 14) (v := ?z15) (by simp; rfl) (by kernel_rfl) (by kernel_rfl) (by kernel_rfl) (by exact fun _ _ _ h => h) (Or.inl ⟨by rfl, ?yz15⟩) hHeld ?_
              case yz15 => (intro wx hSw; have hSx := Ex1.mk hSw; go_simp; (try with_reducible rfl))
              try simp only [Act.put, List.setIfInBounds_toArray, List.set_cons_zero, List.set_cons_succ]
              refine wpAnyH_take (i := 15) (v := ?z16) (by simp; rfl) (by kernel_rfl) (by kernel_rfl) (by kernel_rfl) (by exact fun _ _ _ h => h) (Or.inl ⟨by rfl, ?yz16⟩) hHeld ?_
              case yz16 => (intro wx hSw; have hSx := Ex1.mk hSw; go_simp; (try with_reducible rfl))
              try simp only [Act.put, List.setIfInBounds_toArray, List.set_cons_zero, List.set_cons_succ]
              refine wpAnyH_take (i := 16) (v := ?z17) (by simp; rfl) (by kernel_rfl) (by kernel_rfl) (by kernel_rfl) (by exact fun _ _ _ h => h) (Or.inl ⟨by rfl, ?yz17⟩) hHeld ?_
              case yz17 => (intro wx hSw; have hSx := Ex1.mk hSw; go_simp; (try with_reducible rfl))
              try simp only [Act.put, List.setIfInBounds_toArray, List.set_cons_zero, List.set_cons_succ]
              refine wpAnyH_take (i := 17) (v := ?z18) (by simp; rfl) (by kernel_rfl) (by kernel_rfl) (by kernel_rfl) (by exact fun _ _ _ h => h) (Or.inl ⟨by rfl, ?yz18⟩) hHeld ?_
              case yz18 => (intro wx hSw; have hSx := Ex1.mk hSw; go_simp; (try with_reducible rfl))
              try simp only [Act.put, List.setIfInBounds_toArray, List.set_cons_zero, List.set_cons_succ]
              refine wpAnyH_take (i := 18) (v := ?z19) (by simp; rfl) (by kernel_rfl) (by kernel_rfl) (by kernel_rfl) (by exact fun _ _ _ h => h) (Or.inl ⟨by rfl, ?yz19⟩) hHeld ?_
              case yz19 => (intro wx hSw; have hSx := Ex1.mk hSw; go_simp; (try with_reducible rfl))
              try simp only [Act.put, List.setIfInBounds_toArray, List.set_cons_zero, List.set_cons_succ]
              refine wpAnyH_take (i := 19) (v := ?z20) (by simp; rfl) (by kernel_rfl) (by kernel_rfl) (by kernel_rfl) (by exact fun _ _ _ h => h) (Or.inl ⟨by rfl, ?yz20⟩) hHeld ?_
              case yz20 => (intro wx hSw; have hSx := Ex1.mk hSw; go_simp; (try with_reducible rfl))
              try simp only [Act.put, List.setIfInBounds_toArray, List.set_cons_zero, List.set_cons_succ]
              refine wpAnyH_take (i := 20) (v := ?z21) (by simp; rfl) (by kernel_rfl) (by kernel_rfl) (by kernel_rfl) (by exact fun _ _ _ h => h) (Or.inl ⟨by rfl, ?yz21⟩) hHeld ?_
              case yz21 => (intro wx hSw; have hSx := Ex1.mk hSw; go_simp; (try with_reducible rfl))
              try simp only [Act.put, List.setIfInBounds_toArray, List.set_cons_zero, List.set_cons_succ]
              refine wpAnyH_take (i := 21) (v := ?z22) (by simp; rfl) (by kernel_rfl) (by kernel_rfl) (by kernel_rfl) (by exact fun _ _ _ h => h) (Or.inl ⟨by rfl, ?yz22⟩) hHeld ?_
              case yz22 => (intro wx hSw; have hSx := Ex1.mk hSw; go_simp; (try with_reducible rfl))
              try simp only [Act.put, List.setIfInBounds_toArray, List.set_cons_zero, List.set_cons_succ]
              refine wpAnyH_take (i := 22) (v := ?z23) (by simp; rfl) (by kernel_rfl) (by kernel_rfl) (by kernel_rfl) (by exact fun _ _ _ h => h) (Or.inl ⟨by rfl, ?yz23⟩) hHeld ?_
              case yz23 => (intro wx hSw; have hSx := Ex1.mk hSw; go_simp; (try with_reducible rfl))
              try simp only [Act.put, List.setIfInBounds_toArray, List.set_cons_zero, List.set_cons_succ]
              refine wpAnyH_take (i := 23) (v := ?z24) (by simp; rfl) (by kernel_rfl) (by kernel_rfl) (by kernel_rfl) (by exact fun _ _ _ h => h) (Or.inl ⟨by rfl, ?yz24⟩) hHeld ?_
              case yz24 => (intro wx hSw; have hSx := Ex1.mk hSw; go_simp; (try with_reducible rfl))
              try simp only [Act.put, List.setIfInBounds_toArray, List.set_cons_zero, List.set_cons_succ]
              refine wpAnyH_done (by kernel_rfl) ?_ _
              clear hHeld
              go_wp2_with fail
              go_roundw
              case rel => exact ⟨k + 1, by go_num, by omega, inferInstance, inferInstance, inferInstance⟩
              case measure => simp [intOf]; omega
            · have klt' : (L.length : Int) ≤ (k : Int) := by omega
              go_wp2_with (first
      | (go_at_call 7; (with_reducible refine Calls.cE knownC ?_); intros))
              go_ret
              exact E.fin rfl
    | er k n c t =>
      have HT := Lib.hid hT
      clear hT
      go_enter Tryd.func4, Tryd.ntmps4
      go_wp2_with (first
      | (go_at_call 7; (with_reducible refine Calls.cE knownC ?_); intros)
      | (go_at_call 8; (with_reducible refine Calls.cTErr (tokEr (by omega) HT) ?_); intros))
      go_ret
      exact E.fin rfl
  · have hs' : (3000 : Int) < s.size := by omega
    go_enter Tryd.func4, Tryd.ntmps4
    go_wp2_with (first
      | (go_at_call 7; (with_reducible refine Calls.cE knownC ?_); intros))
    go_ret
    exact E.fin rfl
theorem lexerJoins_walk (a0 : ByteArray) (w : World) (_ : a0.size ≤ maxLen) (hL : laidMetH Tryd.prog laidL w) : Calls Tryd.prog 4 #[.string a0] w fun e w' => e = .returned (.bool true) ∧ Below w.heap.size w w' := by
  obtain ⟨aS, aL, h1, h2, _, h3⟩ := sentsL hL
  exact lexerJoins_walk' (w0 := w)
end Go.Proofs.YtlameeijogdckaaDoor
