/-
  The statement LexerAppends: its walk.
  Printed by a small program (mklex9.py).
-/
import Derived.Test.YtlameeijogdckaaDoorLawLJ
namespace Go.Proofs.YtlameeijogdckaaDoor
open Go.RowKit

theorem TkAt.here {W w0 : World} {g : Nat} {L : List Tk} (h : TkAt W g L w0) : TkAt W g L W := ⟨h.out, h.ltW, h.ltW⟩
theorem count_cnt (l : List UInt8) : Lib.countByte l 10 = cntL l := by
  unfold Lib.countByte cntL List.count
  congr 1
  funext b
  rw [Bool.eq_iff_iff, beq_iff_eq, decide_eq_true_eq, ← UInt8.toNat_inj]
  exact Iff.rfl
theorem cnt_le (l : List UInt8) : cntL l ≤ l.length := List.countP_le_length
theorem app_list (s t : ByteArray) : (s ++ ⟨#[10]⟩ ++ t).data.toList = s.data.toList ++ 10 :: t.data.toList := by
  simp [ByteArray.data_append]
/-- The tokens of two texts with a line feed between them. -/
theorem tkS_app (s t : ByteArray) : tkS (s ++ ⟨#[10]⟩ ++ t) = (tkS s).then ((tkS t).sh (cntL s.data.toList + 1)) := by
  rw [tkS_eq, tkS_eq, tkS_eq, app_list, toks_append _ _ _ _ _ (Nat.lt_succ_self _), ← toks_shift _ _ _ _ _ (Nat.lt_succ_self _)]
  rfl
theorem tg_left {A B : List Tk} {k : Nat} (h : k < A.length) : tg (A ++ B) k = tg A k := by
  unfold tg; rw [List.getD_eq_getElem?_getD, List.getD_eq_getElem?_getD, List.getElem?_append_left h]
theorem tg_right {A B : List Tk} {k : Nat} (h : A.length ≤ k) : tg (A ++ B) k = tg B (k - A.length) := by
  unfold tg; rw [List.getD_eq_getElem?_getD, List.getD_eq_getElem?_getD, List.getElem?_append_right h]
theorem tg_drop {A : List Tk} {k : Nat} (h : k < A.length - 1) : tg A.dropLast k = tg A k := by
  unfold tg; rw [List.getD_eq_getElem?_getD, List.getD_eq_getElem?_getD, List.getElem?_dropLast, if_pos h]
theorem tg_map {B : List Tk} {d j : Nat} (h : j < B.length) : tg (B.map (shT d)) j = shT d (tg B j) := by
  unfold tg; rw [List.getD_eq_getElem?_getD, List.getD_eq_getElem?_getD, List.getElem?_map, List.getElem?_eq_getElem h]; rfl
theorem tg_line {s : ByteArray} {B : List Tk} (h : tkS s = .ok B) {j : Nat} (hj : j < B.length) : (tg B j).line ≤ 1 + s.size := by
  have := toks_line _ _ _ _ _ (Nat.lt_succ_self _) h (tg B j) (List.mem_of_getElem? (tg_get hj))
  rw [List.drop_zero, ← str_len] at this
  exact this
set_option maxRecDepth 100000 in
set_option maxHeartbeats 4000000 in
set_option synthInstance.maxSize 100000 in
set_option synthInstance.maxHeartbeats 1000000 in
theorem countV {w : World} {s : ByteArray} {n : Nat} (hn : Hid (cntL s.data.toList = n)) : Calls Tryd.prog 16 #[.string s, .string ⟨#[10]⟩] w fun e w' => e = .returned (.int .i64 ((n : Nat) : Int)) ∧ w = w' := by
  have h24 := @run_callFunc_extern Tryd.prog 24 _ Extern.BytealgCount.count Tryd.func24 (by kernel_rfl) (by kernel_rfl) (by kernel_rfl) (by kernel_rfl)
  have hr : ∀ W : World, (Extern.BytealgCount.count #[.string s, .int .u8 10]).run Tryd.prog W = .ok (.int .i64 (n : Int)) W := fun W => by
    have h := @Lib.run_countString Tryd.prog s 10 W
    rw [show ((10 : Int)).toNat.toUInt8 = 10 by decide, count_cnt, hn.out] at h; exact h
  have hix : ∀ W : World, (Instr.index 9 (.string ⟨#[10]⟩) (.int .i64 0)).run Tryd.prog W = .ok (.int .u8 10) W := fun W => by kernel_rfl
  go_enter Tryd.func16, Tryd.ntmps16
  go_wp2
  go_ret
  exact ⟨rfl, rfl⟩
set_option maxRecDepth 100000 in
set_option maxHeartbeats 4000000 in
set_option synthInstance.maxSize 100000 in
set_option synthInstance.maxHeartbeats 1000000 in
theorem lexerAppends_walk' {w w0 : World} {s t : ByteArray} {aS aL : Addr} [hS : Snt w 0 aS w0] [hL : Snt w 1 aL w0] [hE : Gc w 2 eTy w0] [zS : Kz w0 w] : Calls Tryd.prog 6 #[.string s, .string t] w fun e w' => e = .returned (.bool true) ∧ Below w.heap.size w w' := by
  by_cases hs : s.size ≤ 1500
  · by_cases ht : t.size ≤ 1500
    · have hs' : (s.size : Int) ≤ 1500 := by omega
      have ht' : (t.size : Int) ≤ 1500 := by omega
      have hC := tkS_app s t
      obtain ⟨u1, hu1⟩ : ∃ u1, s ++ ⟨#[10]⟩ = u1 := ⟨_, rfl⟩
      obtain ⟨u, hu⟩ : ∃ u, u1 ++ t = u := ⟨_, rfl⟩
      have su1 : u1.size = s.size + 1 := by rw [← hu1, ByteArray.size_append]; rfl
      have su : u.size ≤ 60000 := by rw [← hu, ByteArray.size_append]; omega
      have a1 : ∀ W : World, (Op.stringOp .add s ⟨#[10]⟩).run Tryd.prog W = .ok (.string u1) W := fun W => by
        rw [run_string_add_sum W _ _ (by show s.size + 1 ≤ _; omega), hu1]
      have a2 : ∀ W : World, (Op.stringOp .add u1 t).run Tryd.prog W = .ok (.string u) W := fun W => by
        rw [run_string_add_sum W _ _ (by omega), hu]
      rw [hu1, hu] at hC
      obtain ⟨d0, hd0⟩ : ∃ d0, cntL s.data.toList = d0 := ⟨_, rfl⟩
      have HD := Lib.hid hd0
      have hd1 : d0 ≤ 1500 := by have := cnt_le s.data.toList; rw [← str_len] at this; omega
      rw [hd0] at hC
      clear hu1 hu su1 hd0
      cases hA : tkS s with
      | er k n c x =>
        rw [hA] at hC
        have HA := Lib.hid hA
        cases hB : tkS t with
        | er k2 n2 c2 x2 =>
          rw [hB] at hC
          have HB := Lib.hid hB
          have HC : Hid (tkS u = .er k n c x) := hC
          clear hC hA hB
          go_enter Tryd.func6, Tryd.ntmps6
          go_wp2_with (first
      | (go_at_call 7; (with_reducible refine Calls.cE knownC ?_); intros)
      | (go_at_call 8; (with_reducible refine Calls.cTErr (tokEr (by omega) HC) ?_); intros)
      | (go_at_call 8; (with_reducible refine Calls.cTErr (tokEr (by omega) HA) ?_); intros)
      | (go_at_call 8; (with_reducible refine Calls.cTErr (tokEr (by omega) HB) ?_); intros))
          go_ret
          exact E.fin rfl
        | ok B =>
          rw [hB] at hC
          have HB := Lib.hid hB
          have HC : Hid (tkS u = .er k n c x) := hC
          clear hC hA hB
          go_enter Tryd.func6, Tryd.ntmps6
          go_wp2_with (first
      | (go_at_call 7; (with_reducible refine Calls.cE knownC ?_); intros)
      | (go_at_call 8; (with_reducible refine Calls.cTErr (tokEr (by omega) HC) ?_); intros)
      | (go_at_call 8; (with_reducible refine Calls.cTErr (tokEr (by omega) HA) ?_); intros)
      | (go_at_call 8; (with_reducible refine Calls.cTo (tokOk (by omega) HB) ?_); intros))
          go_ret
          exact E.fin rfl
      | ok A =>
        rw [hA] at hC
        have HA := Lib.hid hA
        cases hB : tkS t with
        | er k2 n2 c2 x2 =>
          rw [hB] at hC
          have HB := Lib.hid hB
          have HC : Hid (tkS u = .er k2 (n2 + (d0 + 1)) c2 x2) := hC
          clear hC hA hB
          go_enter Tryd.func6, Tryd.ntmps6
          go_wp2_with (first
      | (go_at_call 7; (with_reducible refine Calls.cE knownC ?_); intros)
      | (go_at_call 8; (with_reducible refine Calls.cTErr (tokEr (by omega) HC) ?_); intros)
      | (go_at_call 8; (with_reducible refine Calls.cTo (tokOk (by omega) HA) ?_); intros)
      | (go_at_call 8; (with_reducible refine Calls.cTErr (tokEr (by omega) HB) ?_); intros))
          go_ret
          exact E.fin rfl
        | ok B =>
          rw [hB] at hC
          have HB := Lib.hid hB
          have HC : Hid (tkS u = .ok (A.dropLast ++ B.map (shT (d0 + 1)))) := hC
          have hA0 : A ≠ [] := ok_ne _ _ _ _ A (Nat.lt_succ_self _) hA
          have hB0 : B ≠ [] := ok_ne _ _ _ _ B (Nat.lt_succ_self _) hB
          have hAl := (tkS_small hA).1
          have hBl := (tkS_small hB).1
          have pA : 0 < A.length := List.length_pos_iff.2 hA0
          have pB : 0 < B.length := List.length_pos_iff.2 hB0
          obtain ⟨N, hN⟩ : ∃ N, A.length - 1 + B.length = N := ⟨_, rfl⟩
          have HN : Hid ((A.dropLast ++ B.map (shT (d0 + 1))).length = N) := by show _ = _; rw [List.length_append, List.length_map, List.length_dropLast]; exact hN
          have HC0 : Hid (A.dropLast ++ B.map (shT (d0 + 1)) ≠ []) := fun e => hB0 (List.map_eq_nil_iff.1 (List.append_eq_nil_iff.1 e).2)
          have HL := Lib.hid (fun j hj => @tg_line t B hB j hj)
          have HA0 := Lib.hid hA0
          have HB0 := Lib.hid hB0
          have q0 : ((A.length : Int) == 0) = false := by rw [beq_eq_false_iff_ne]; omega
          have e1 : IntKind.i64.wrap ((A.length : Int) - 1) = (A.length : Int) - 1 := wr_in (by omega) (by omega)
          have e2 : IntKind.i64.wrap ((A.length : Int) - 1 + (B.length : Int)) = (N : Int) := by rw [wr_in (by omega) (by omega)]; omega
          have e3 : IntKind.i64.wrap ((d0 : Int) + 1) = (d0 : Int) + 1 := wr_in (by omega) (by omega)
          clear hC hA hB hA0 hB0
          go_enter Tryd.func6, Tryd.ntmps6
          go_wp2_with (first
      | (go_at_call 8; (with_reducible refine Calls.cTj (tokOk (by omega) HA) HA0.out (rfl) ?_); intro w1 iw1 g1 cw1 ig1)
      | (go_at_call 8; (with_reducible refine Calls.cTj (tokOk (by omega) HB) HB0.out (rfl) ?_); intro w2 iw2 g2 cw2 ig2)
      | (go_at_call 8; (with_reducible refine Calls.cTj (tokOk (su) HC) HC0.out (HN.out) ?_); intro w3 iw3 g3 cw3 ig3)
      | (go_at_call 16; (with_reducible refine Calls.cS (countV HD) ?_); intros))
          go_loopw [81] (fun i wr => ∃ k : Nat, i = .int .i64 ((k : Nat) : Int) ∧ k ≤ N ∧ TkAt wr g1 A wr ∧ TkAt wr g2 B wr ∧ TkAt wr g3 (A.dropLast ++ B.map (shT (d0 + 1))) wr ∧ Kp w wr) (fun i _ => N - (intOf i).toNat)
          case atStart => exact ⟨0, rfl, by omega, TkAt.here inferInstance, TkAt.here inferInstance, TkAt.here inferInstance, inferInstance⟩
          case round =>
            obtain ⟨k, rfl, k1, j1, j2, j3, j4⟩ := hrel
            have zz : Kz w0 wr := ⟨Nat.le_trans zS.out j4.out.size⟩
            have kw := Kp1.mk j4.out
            by_cases klt : k < N
            · have klt' : (k : Int) < N := by omega
              have kC : k < (A.dropLast ++ B.map (shT (d0 + 1))).length := by rw [HN.out]; exact klt
              have ew : IntKind.i64.wrap ((k : Int) + 1) = (k : Int) + 1 := wr_in (by omega) (by omega)
              by_cases kA : k < A.length - 1
              · have hg : tg (A.dropLast ++ B.map (shT (d0 + 1))) k = tg A k := by rw [tg_left (by rw [List.length_dropLast]; exact kA), tg_drop kA]
                have kA' : (k : Int) < (A.length : Int) - 1 := by omega
                have kA2 : k < A.length := by omega
                clear kA
                generalize A.dropLast ++ B.map (shT (d0 + 1)) = C at *
                go_wp2_with fail
                go_roundw
                case rel => exact ⟨k + 1, by go_num, by omega, TkAt.here inferInstance, TkAt.here inferInstance, TkAt.here inferInstance, inferInstance⟩
                case measure => simp [intOf]; omega
              · obtain ⟨j, hj⟩ : ∃ j, k + 1 - A.length = j := ⟨_, rfl⟩
                have jB : j < B.length := by omega
                have hg : tg (A.dropLast ++ B.map (shT (d0 + 1))) k = shT (d0 + 1) (tg B j) := by
                  rw [tg_right (by rw [List.length_dropLast]; omega), List.length_dropLast, show k - (A.length - 1) = j by omega, tg_map jB]
                have kA' : (A.length : Int) - 1 ≤ (k : Int) := by omega
                have f1 : IntKind.i64.wrap ((k : Int) - (A.length : Int)) = (k : Int) - (A.length : Int) := wr_in (by omega) (by omega)
                have f2 : IntKind.i64.wrap ((k : Int) - (A.length : Int) + 1) = (j : Int) := by rw [wr_in (by omega) (by omega)]; omega
                have hl := HL.out j jB
                have f3 : IntKind.i64.wrap (((tg B j).line : Int) + ((d0 : Int) + 1)) = ((tg B j).line : Int) + ((d0 : Int) + 1) := wr_in (by omega) (by omega)
                have jB' : (j : Int) < B.length := by omega
                have h1 : (tg (A.dropLast ++ B.map (shT (d0 + 1))) k).kind = (tg B j).kind := by rw [hg]; rfl
                have h2 : (tg (A.dropLast ++ B.map (shT (d0 + 1))) k).text = (tg B j).text := by rw [hg]; rfl
                have h3 : (((tg (A.dropLast ++ B.map (shT (d0 + 1))) k).line : Nat) : Int) = ((tg B j).line : Int) + ((d0 : Int) + 1) := by rw [hg]; show (((tg B j).line + (d0 + 1) : Nat) : Int) = _; omega
                have h4 : (tg (A.dropLast ++ B.map (shT (d0 + 1))) k).col = (tg B j).col := by rw [hg]; rfl
                clear kA hj hg hl
                generalize A.dropLast ++ B.map (shT (d0 + 1)) = C at *
                go_wp2_with fail
                go_roundw
                case rel => exact ⟨k + 1, by go_num, by omega, TkAt.here inferInstance, TkAt.here inferInstance, TkAt.here inferInstance, inferInstance⟩
                case measure => simp [intOf]; omega
            · have klt' : (N : Int) ≤ (k : Int) := by omega
              go_wp2_with (first
      | (go_at_call 7; (with_reducible refine Calls.cE knownC ?_); intros))
              go_ret
              exact E.fin rfl
    · have ht' : (1500 : Int) < t.size := by omega
      have hs' : (s.size : Int) ≤ 1500 := by omega
      go_enter Tryd.func6, Tryd.ntmps6
      go_wp2_with (first
      | (go_at_call 7; (with_reducible refine Calls.cE knownC ?_); intros))
      go_ret
      exact E.fin rfl
  · have hs' : (1500 : Int) < s.size := by omega
    go_enter Tryd.func6, Tryd.ntmps6
    go_wp2_with (first
      | (go_at_call 7; (with_reducible refine Calls.cE knownC ?_); intros))
    go_ret
    exact E.fin rfl
theorem lexerAppends_walk (a0 a1 : ByteArray) (w : World) (_ : a0.size ≤ maxLen) (_ : a1.size ≤ maxLen) (hL : laidMetH Tryd.prog laidL w) : Calls Tryd.prog 6 #[.string a0, .string a1] w fun e w' => e = .returned (.bool true) ∧ Below w.heap.size w w' := by
  obtain ⟨aS, aL, h1, h2, _, h3⟩ := sentsL hL
  exact lexerAppends_walk' (w0 := w)
end Go.Proofs.YtlameeijogdckaaDoor
