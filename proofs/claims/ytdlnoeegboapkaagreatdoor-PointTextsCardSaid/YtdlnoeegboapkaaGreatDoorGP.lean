/-
  Texts of this claim, joined: Read, RTxt.
-/
import Derived.Test.YtdlnoeegboapkaaGreatDoorGO
import Derived.Test.YtdlnoeegboapkaaGreatDoorGL
import Derived.Lib.Bytealg
/- The reference's reading and writing of decimal digits. printed by a small program (mkread.py). -/
namespace Go.Proofs.YtdlnoeegboapkaaGreatDoor
open Go.RowKit
set_option maxRecDepth 100000
set_option maxHeartbeats 40000000
set_option synthInstance.maxSize 100000
set_option synthInstance.maxHeartbeats 1000000

instance CN.ten {W : World} {b : Nat} [h : Sz W b] : CN (W.alloc (.cells #[.int .u32 10] 106)) (.slice (some ⟨b, 0, none⟩) 1 1) 10 1 := ⟨by
  rw [← h.out]
  exact .lit (rd_lit rfl [10] (dig1 (by omega)) (by simp) #[.int .u32 10] rfl 1 rfl) (nf_one (by omega) (by omega)) (by simp)⟩
theorem CN.re {W : World} {v : Value} {n n' k k' : Nat} (h : CN W v n k) (e : n = n') (b : (nf n').length ≤ k') : CN W v n' k' := by
  subst e; exact ⟨h.out.1, b⟩
/-- What num.Read returns of digits. -/
def ReadRet (w : World) (m : Nat) (e : Ending) (w' : World) : Prop := ∃ a l c b, e = .returned (.tuple #[.slice a l c, .bool b]) ∧ CN w' (.slice a l c) m 4097 ∧ Below w.heap.size w w'
theorem numReadC (s : ByteArray) (w : World) (hsz : s.size ≤ 4096) (hD : ∀ b ∈ s.data.toList, isD b = true) : Calls Tryz.prog 137 #[.string s] w (ReadRet w (bval s.data.toList)) := by
  have HLEN := Lib.hid (str_len s)
  have HD := Lib.hid hD
  have HB : Hid (∀ k, k ≤ s.size → (nf (bval (s.data.toList.take k))).length ≤ 4097) := fun k hk => by
    refine Nat.le_trans (nf_bval_len fun b hb => hD b (List.mem_of_mem_take hb)) ?_
    rw [List.length_take]; omega
  clear hD
  go_enter Tryz.func137, Tryz.ntmps137
  go_wp2_with fail
  go_loopw [4, 5] (fun av iv wr => ∃ (k : Nat) (a : Option Addr) (l c : Nat), k ≤ s.size ∧ iv = .int .i64 k ∧ av = .slice a l c ∧ CN wr (.slice a l c) (bval (s.data.toList.take k)) 4097 ∧ Kp w wr) (fun _ i _ => s.size - (intOf i).toNat)
  case atStart => exact ⟨0, none, 0, 0, Nat.zero_le _, rfl, rfl, CN.re CN.nil rfl (by rw [List.take_zero]; exact Nat.zero_le _), inferInstance⟩
  case round =>
    obtain ⟨k, a, l, c, hk, rfl, rfl, i1, i2⟩ := hrel
    by_cases hlt : k < s.size
    · have hix := ix_str s k hlt
      obtain ⟨d0, d1, d2⟩ := isD_bd (HD.out _ (byteAt_mem hlt))
      have HS : Hid (bval (s.data.toList.take (k + 1)) = 10 * bval (s.data.toList.take k) + bdig (byteAt s k)) := by show _ = _; rw [take_byte hlt]; exact bvalF_snoc 0 _ _
      have HB1 := Lib.hid (HB.out (k + 1) (by omega))
      have hbd : bdig (byteAt s k) = (byteAt s k).toNat - 48 := rfl
      generalize bval (s.data.toList.take k) = m at *
      generalize bdig (byteAt s k) = d at *
      generalize (byteAt s k).toNat = x at *
      obtain rfl : x = 48 + d := by omega
      have hwd : ((d : Int)).natAbs = d := Int.natAbs_natCast d
      have hw8 : IntKind.u8.wrap (48 + (d : Int) - 48) = d := by rw [show (48 : Int) + d - 48 = d by omega]; simp [IntKind.wrap, IntKind.signed, IntKind.bits]; omega
      have hw64 : IntKind.u64.wrap (d : Int) = d := by simp [IntKind.wrap, IntKind.signed, IntKind.bits]; omega
      clear hbd d1 d2
      go_wp2_with fail
      refine region_cls (by kernel_rfl) [] (fun hHeld => ?_)
      refine wpAnyH_take (i := 0) (v := ?z5) (by simp; rfl) (by kernel_rfl) (by kernel_rfl) (by kernel_rfl) (by exact fun _ _ _ h => h) (Or.inl ⟨by rfl, ?yz5⟩) hHeld ?_
      case yz5 => (intro wx hSw; have hSx := Ex1.mk hSw; go_simp; (try with_reducible rfl))
      try simp only [Act.put, List.setIfInBounds_toArray, List.set_cons_zero, List.set_cons_succ]
      refine wpAnyH_take (i := 3) (v := ?z6) (by simp; rfl) (by kernel_rfl) (by kernel_rfl) (by kernel_rfl) (by exact fun _ _ _ h => h) (Or.inl ⟨by rfl, ?yz6⟩) hHeld ?_
      case yz6 => (intro wx hSw; have hSx := Ex1.mk hSw; go_simp; (try with_reducible rfl))
      try simp only [Act.put, List.setIfInBounds_toArray, List.set_cons_zero, List.set_cons_succ]
      refine wpAnyH_take (i := 4) (v := ?z7) (by simp; rfl) (by kernel_rfl) (by kernel_rfl) (by kernel_rfl) (by exact fun _ _ _ h => h) (Or.inl ⟨by rfl, ?yz7⟩) hHeld ?_
      case yz7 => (intro wx hSw; have hSx := Ex1.mk hSw; go_simp; (try with_reducible rfl))
      try simp only [Act.put, List.setIfInBounds_toArray, List.set_cons_zero, List.set_cons_succ]
      refine wpAnyH_take (i := 5) (v := ?z8) (by simp; rfl) (by kernel_rfl) (by kernel_rfl) (by kernel_rfl) (by exact fun _ _ _ h => h) (Or.inl ⟨by rfl, ?yz8⟩) hHeld ?_
      case yz8 => (intro wx hSw; have hSx := Ex1.mk hSw; go_simp; (try with_reducible rfl))
      try simp only [Act.put, List.setIfInBounds_toArray, List.set_cons_zero, List.set_cons_succ]
      refine wpAnyH_take (i := 6) (v := ?z9) (by simp; rfl) (by kernel_rfl) (by kernel_rfl) (by kernel_rfl) (by exact fun _ _ _ h => h) (Or.inl ⟨by rfl, ?yz9⟩) hHeld ?_
      case yz9 => (intro wx hSw; have hSx := Ex1.mk hSw; go_simp; (try with_reducible rfl))
      try simp only [Act.put, List.setIfInBounds_toArray, List.set_cons_zero, List.set_cons_succ]
      refine wpAnyH_take (i := 7) (v := ?z10) (by simp; rfl) (by kernel_rfl) (by kernel_rfl) (by kernel_rfl) (by exact fun _ _ _ h => h) (Or.inl ⟨by rfl, ?yz10⟩) hHeld ?_
      case yz10 => (intro wx hSw; have hSx := Ex1.mk hSw; go_simp; (try with_reducible rfl))
      try simp only [Act.put, List.setIfInBounds_toArray, List.set_cons_zero, List.set_cons_succ]
      refine wpAnyH_ready (rs := [1]) (by kernel_rfl) (by simp) ?_
      refine AllReadyH.cons (by simp; rfl) (fun K hK => ?_) AllReadyH.nil
      go_simp
      refine hK.out _ _ inferInstance ?_
      clear hHeld hK K
      intro hHeld
      try simp only [Act.put, List.setIfInBounds_toArray, List.set_cons_zero, List.set_cons_succ]
      refine wpAnyH_ready (rs := [2]) (by kernel_rfl) (by simp) ?_
      refine AllReadyH.cons (by simp; rfl) (fun K hK => ?_) AllReadyH.nil
      go_simp
      (go_at_call 62; (with_reducible refine Calls.cN (numProductC (by omega)) ?_); intros)
      refine hK.out _ _ inferInstance ?_
      clear hHeld hK K
      intro hHeld
      try simp only [Act.put, List.setIfInBounds_toArray, List.set_cons_zero, List.set_cons_succ]
      refine wpAnyH_ready (rs := [8]) (by kernel_rfl) (by simp) ?_
      refine AllReadyH.cons (by simp; rfl) (fun K hK => ?_) AllReadyH.nil
      go_simp
      (go_at_call 126; (with_reducible refine Calls.cN (wordC (by omega)) ?_); intros)
      refine hK.out _ _ inferInstance ?_
      clear hHeld hK K
      intro hHeld
      try simp only [Act.put, List.setIfInBounds_toArray, List.set_cons_zero, List.set_cons_succ]
      refine wpAnyH_ready (rs := [9]) (by kernel_rfl) (by simp) ?_
      refine AllReadyH.cons (by simp; rfl) (fun K hK => ?_) AllReadyH.nil
      go_simp
      (go_at_call 180; (with_reducible refine Calls.cN (numSumC (by omega)) ?_); intros)
      refine hK.out _ _ inferInstance ?_
      clear hHeld hK K
      intro hHeld
      try simp only [Act.put, List.setIfInBounds_toArray, List.set_cons_zero, List.set_cons_succ]
      refine wpAnyH_take (i := 10) (v := ?z11) (by simp; rfl) (by kernel_rfl) (by kernel_rfl) (by kernel_rfl) (by exact fun _ _ _ h => h) (Or.inl ⟨by rfl, ?yz11⟩) hHeld ?_
      case yz11 => (intro wx hSw; have hSx := Ex1.mk hSw; go_simp; (try with_reducible rfl))
      try simp only [Act.put, List.setIfInBounds_toArray, List.set_cons_zero, List.set_cons_succ]
      refine wpAnyH_done (by kernel_rfl) ?_ _
      clear hHeld
      go_wp2_with fail
      go_roundw
      case rel => exact ⟨k + 1, _, _, _, by omega, by go_num, rfl, CN.re inferInstance (by rw [HS.out]; omega) HB1.out, inferInstance⟩
      case measure => simp [intOf]; omega
    · obtain rfl : k = s.size := by omega
      have e : s.data.toList.take s.size = s.data.toList := by rw [HLEN.out, List.take_length]
      rw [e] at i1
      go_wp2_with fail
      go_ret2
      exact ⟨_, _, _, _, rfl, i1, i2.out⟩
theorem Calls.kRead {P : Program} {f : FuncId} {args : Array Value} {w : World} {m : Nat} {K : Ending → World → Prop} (h : Calls P f args w (ReadRet w m))
    (hK : ∀ w' [Kp1 w w'] a l c b [CN w' (.slice a l c) m 4097], K (.returned (.tuple #[.slice a l c, .bool b])) w') : Calls P f args w K := by
  refine h.mono ?_
  rintro e w' ⟨a, l, c, b, rfl, hx, hb⟩
  exact @hK w' ⟨hb⟩ a l c b hx
/-- What ref01.ReadN returns. -/
def ReadNRet (w : World) (l : List UInt8) (e : Ending) (w' : World) : Prop := ∃ a n c, e = .returned (.tuple #[.slice a n c, .int .i64 ((pKind l : Nat) : Int)]) ∧ CN w' (.slice a n c) (if pKind l = 0 then bval l else 0) 4097 ∧ Below w.heap.size w w'
theorem Calls.kReadN {P : Program} {f : FuncId} {args : Array Value} {w : World} {l : List UInt8} {K : Ending → World → Prop} (h : Calls P f args w (ReadNRet w l))
    (hK : ∀ w' [Kp1 w w'] a n c [CN w' (.slice a n c) (if pKind l = 0 then bval l else 0) 4097], K (.returned (.tuple #[.slice a n c, .int .i64 ((pKind l : Nat) : Int)])) w') : Calls P f args w K := by
  refine h.mono ?_
  rintro e w' ⟨a, n, c, rfl, hx, hb⟩
  exact @hK w' ⟨hb⟩ a n c hx
theorem readNC (s : ByteArray) (w : World) (hsz : s.size ≤ 1000000000) : Calls Tryz.prog 74 #[.string s] w (ReadNRet w s.data.toList) := by
  have HLEN := Lib.hid (str_len s)
  go_enter Tryz.func74, Tryz.ntmps74
  go_wp2_with fail
  go_loop [4] (fun i => ∃ k : Nat, k ≤ s.size ∧ i = .int .i64 k ∧ Hid (∀ b ∈ s.data.toList.take k, isD b = true)) (fun i => s.size - (intOf i).toNat)
  case atStart => exact ⟨0, Nat.zero_le _, rfl, fun b hb => by simp at hb⟩
  case round =>
    obtain ⟨k, hk, rfl, hD⟩ := hrel
    by_cases hlt : k < s.size
    · have hix := ix_str s k hlt
      by_cases hd : isD (byteAt s k) = true
      · obtain ⟨_, d1, d2⟩ := isD_bd hd
        have hD2 : Hid (∀ b ∈ s.data.toList.take (k + 1), isD b = true) := fun b hb => by
          rw [take_byte hlt] at hb
          rcases List.mem_append.1 hb with h | h
          · exact hD.out b h
          · rw [List.mem_singleton.1 h]; exact hd
        clear hd hD
        generalize byteAt s k = x at *
        go_wp2
        go_round
        case rel => exact ⟨k + 1, by omega, by go_num, hD2⟩
        case measure => simp [intOf]; omega
      · have hd : isD (byteAt s k) = false := by simpa using hd
        have HP : Hid (pKind s.data.toList = 1) := by show _ = _; unfold pKind; rw [if_pos (.inr ⟨_, byteAt_mem hlt, hd⟩)]
        have hbd := not_isD hd
        clear hd hD
        generalize byteAt s k = x at *
        rcases hbd with hbd | hbd
        all_goals
          go_wp2
          go_ret2
          exact ⟨_, _, _, by rw [HP.out]; rfl, CN.re CN.nil (by rw [HP.out]; rfl) (by rw [HP.out, if_neg (by decide), nf_zero]; decide), Below.refl _ _⟩
    · obtain rfl : k = s.size := by omega
      have HA : Hid (∀ b ∈ s.data.toList, isD b = true) := fun b hb => hD.out b (by rw [HLEN.out, List.take_length]; exact hb)
      clear hD
      by_cases he : s.data.toList = []
      · have hee : s.toList.isEmpty = true := by rw [Lib.toList_data, he]; rfl
        have HP : Hid (pKind s.data.toList = 1) := by show _ = _; unfold pKind; rw [if_pos (.inl he)]
        clear he
        go_wp2
        go_ret2
        exact ⟨_, _, _, by rw [HP.out]; rfl, CN.re CN.nil (by rw [HP.out]; rfl) (by rw [HP.out, if_neg (by decide), nf_zero]; decide), Below.refl _ _⟩
      · have hee : s.toList.isEmpty = false := by
          rw [Lib.toList_data]
          cases hx : s.data.toList with
          | nil => exact absurd hx he
          | cons => rfl
        have hp : s.data.toList = [] ∨ (∃ b ∈ s.data.toList, isD b = false) → False := fun h => by
          rcases h with h | ⟨b, hb, h⟩
          · exact he h
          · rw [HA.out b hb] at h; cases h
        clear he
        by_cases h4 : 4096 < s.size
        · have HP : Hid (pKind s.data.toList = 2) := by show _ = _; unfold pKind; rw [if_neg hp, if_pos (by rw [← HLEN.out]; exact h4)]
          clear hp
          go_wp2
          go_ret2
          exact ⟨_, _, _, by rw [HP.out]; rfl, CN.re CN.nil (by rw [HP.out]; rfl) (by rw [HP.out, if_neg (by decide), nf_zero]; decide), Below.refl _ _⟩
        · have HP : Hid (pKind s.data.toList = 0) := by show _ = _; unfold pKind; rw [if_neg hp, if_neg (by rw [← HLEN.out]; exact h4)]
          clear hp
          go_wp2_with (go_at_call 137; (with_reducible refine Calls.kRead (numReadC s _ (by omega) HA.out) ?_); intros)
          go_ret2
          exact ⟨_, _, _, by rw [HP.out]; rfl, CN.cast inferInstance (by rw [HP.out]; rfl) (Nat.le_refl _), (inferInstance : Kp w _).out⟩
theorem convert_one (W : World) (x : Int) (d : Nat) (hx : x = (d : Int)) : (convert 282 9 (.slice (some ⟨W.heap.size, 0, none⟩) 1 1)).run Tryz.prog (W.alloc (.cells #[.int .u8 x] 5)) = .ok (.string ⟨#[UInt8.ofNat d]⟩) (W.alloc (.cells #[.int .u8 x] 5)) := by
  subst hx
  have := run_convert_bytes_arg (P := Tryz.prog) (dst := 9) (W.alloc (.cells #[.int .u8 (d : Int)] 5)) 282 5 Tryz.underlying282 Tryz.underlying5 W.heap.size 0 1 1 [(d : Int)] rfl (fun i hi => by
    have h0 : i = 0 := by simpa using hi
    subst h0
    rw [World.cell?_alloc_at _ _ _ _ rfl]; rfl) Tryz.underlying9
  exact this
theorem nf_small {r : Nat} (h0 : r ≠ 0) (h : r < 10) : nf r = [r] := by
  rw [nf_pos h0, show r / 4294967296 = 0 by omega, nf_zero, show r % 4294967296 = r by omega]
theorem rdVal_cn {W : World} {v : Value} {n k : Nat} (h : CN W v n k) : rdVal W v = n := by rw [rdVal_eq h.out.1, val_nf]
theorem cn_cell0 {W : World} {a : Option Addr} {c k r : Nat} (h : CN W (.slice a 1 c) r k) (e : nf r = [r]) : ∃ b off, a = some ⟨b, off, none⟩ ∧ W.cell? ⟨b, off, none⟩ = some (.int .u32 (r : Int)) := by
  obtain ⟨a', cap, hv, _, _, _, hc⟩ := h.out.1
  rw [e] at hv hc
  injection hv with h1 _ _
  subst h1
  obtain ⟨b, off, rfl, hc2⟩ := hc (show 0 < 1 from Nat.zero_lt_one)
  exact ⟨b, off, rfl, hc2 0 (show 0 < 1 from Nat.zero_lt_one)⟩
theorem str_ext {s t : ByteArray} (h : s.data.toList = t.data.toList) : s = t := ByteArray.ext (Array.toList_inj.1 h)
/-- The digits so far as bytes. -/
def revB (D : List Nat) : List UInt8 := (D.map (fun d => UInt8.ofNat (48 + d))).reverse
theorem numTextC {w : World} {a1 : Option Addr} {l1 c1 m k1 : Nat} [h1 : CN w (.slice a1 l1 c1) m k1] (b : k1 ≤ 100000 ∧ (dl m).length ≤ 100000000) :
    Calls Tryz.prog 136 #[.slice a1 l1 c1] w fun e w' => e = .returned (.string (decStr m)) ∧ Below w.heap.size w w' := by
  have hl := h1.out.len
  obtain ⟨b1, b2⟩ := b
  by_cases hm : m = 0
  · subst hm
    obtain rfl : l1 = 0 := hl
    clear h1
    go_enter Tryz.func136, Tryz.ntmps136
    go_wp2_with fail
    go_ret
    exact E.fin rfl
  · have hl0 : 0 < l1 := by rw [hl]; exact nf_len_pos hm
    have hl1 : l1 ≤ k1 := by rw [hl]; exact h1.out.2
    have HL := Lib.hid hl
    clear hl
    have hb0 : ((l1 : Int) == 0) = false := by rw [beq_eq_false_iff_ne]; omega
    go_enter Tryz.func136, Tryz.ntmps136
    go_wp2_with fail
    go_loopw [0, 3] (fun av sv wr => ∃ (c : Nat) (D : List Nat) (S : ByteArray) (a : Option Addr) (cap : Nat), av = .slice a (nf c).length cap ∧ sv = .string S ∧ CN wr (.slice a (nf c).length cap) c 100000 ∧ Hid (S.data.toList = revB D) ∧ Hid (D ++ dl c = dl m) ∧ Kp w wr) (fun a _ wr => rdVal wr a)
    case atStart => exact ⟨m, [], ⟨#[]⟩, a1, c1, by rw [← HL.out], rfl, by rw [← HL.out]; exact CN.re h1 rfl (by have := h1.out.2; omega), rfl, rfl, inferInstance⟩
    case round =>
      obtain ⟨c, D, S, a, cap, rfl, rfl, i1, hS, hD, hK⟩ := hrel
      have hdl := dl_le_len hD.out
      have hSs : S.size = D.length := by rw [str_len, hS.out]; simp [revB]
      by_cases hc0 : c = 0
      · subst hc0
        have HE : Hid (S = decStr m) := by
          have e1 : D = dl m := by have := hD.out; rw [dl_zero, List.append_nil] at this; exact this
          show S = _
          refine str_ext ?_
          rw [hS.out, e1]
          show _ = (((decBytes m).map UInt8.ofNat).toArray).toList
          rw [decBytes_pos hm, List.map_reverse, List.map_map]
          rfl
        have hl0 : (nf 0).length = 0 := rfl
        generalize (nf 0).length = n0 at *
        subst hl0
        clear hdl hSs
        go_wp2_with fail
        go_ret
        rw [← HE.out]
        exact ⟨rfl, hK.out⟩
      · have hp := nf_len_pos hc0
        have HM := Lib.hid (rdVal_cn i1)
        have HQ1 := Lib.hid (Nat.le_trans (nf_len_mono (Nat.div_le_self c 10)) i1.out.2)
        have HD2 : Hid ((D ++ [c % 10]) ++ dl (c / 10) = dl m) := by
          show _ = _
          rw [List.append_assoc, ← hD.out, dl_pos hc0]; rfl
        have HLT := Lib.hid (show c / 10 < c by omega)
        have hr10 : c % 10 < 10 := Nat.mod_lt _ (by omega)
        have hsz : (9223372036854775807 < 1 + S.size) ↔ False := ⟨fun h => by omega, False.elim⟩
        clear hdl hSs
        go_wp2_with fail
        with_reducible refine Calls.cQR (divideC (by omega) (by decide)) ?_
        intro w2 _ a4 l4 c4 a5 l5 c5 i4 i5
        obtain rfl : l4 = (nf (c / 10)).length := i4.out.len
        have hl5 := i5.out.len
        generalize c / 10 = q at *
        generalize c % 10 = r at *
        have HS2 : Hid ((⟨#[UInt8.ofNat (48 + r)]⟩ ++ S : ByteArray).data.toList = revB (D ++ [r])) := by
          show _ = _
          rw [ByteArray.data_append, Array.toList_append, hS.out]
          unfold revB
          rw [List.map_append, List.reverse_append]
          rfl
        by_cases hr : r = 0
        · subst hr
          obtain rfl : l5 = 0 := hl5
          have hcv := convert_one w2 48 48 rfl
          go_wp2_with fail
          go_roundw
          case rel => exact ⟨q, D ++ [0], _, a4, c4, rfl, rfl, CN.re inferInstance rfl HQ1.out, HS2, HD2, inferInstance⟩
          case measure =>
            show rdVal _ _ < rdVal _ _
            rw [HM.out]
            exact Nat.lt_of_le_of_lt (Nat.le_of_eq (rdVal_cn inferInstance)) HLT.out
        · have hn5 := nf_small hr hr10
          rw [hn5] at hl5
          obtain rfl : l5 = 1 := hl5
          have hcv := convert_one w2 (48 + r) (48 + r) (by omega)
          obtain ⟨b5, o5, rfl, hld⟩ := cn_cell0 i5 hn5
          have hw1 : IntKind.u8.wrap (r : Int) = r := by simp [IntKind.wrap, IntKind.signed, IntKind.bits]; omega
          have hw2 : IntKind.u8.wrap (48 + (r : Int)) = 48 + r := by simp [IntKind.wrap, IntKind.signed, IntKind.bits]; omega
          clear hn5
          have HS3 : Hid ((⟨#[48 + UInt8.ofNat r]⟩ ++ S : ByteArray).data.toList = revB (D ++ [r])) := by have := HS2.out; rw [show UInt8.ofNat (48 + r) = 48 + UInt8.ofNat r from UInt8.ofNat_add 48 r] at this; exact this
          go_wp2_with fail
          go_roundw
          case rel => exact ⟨q, D ++ [r], _, a4, c4, rfl, rfl, CN.re inferInstance rfl HQ1.out, HS3, HD2, inferInstance⟩
          case measure =>
            show rdVal _ _ < rdVal _ _
            rw [HM.out]
            exact Nat.lt_of_le_of_lt (Nat.le_of_eq (rdVal_cn inferInstance)) HLT.out
end Go.Proofs.YtdlnoeegboapkaaGreatDoor

/- Texts of rational numbers: Format, strings.Cut at a byte, Parse. printed by a small program (mkrtxt.py). -/
namespace Go.Proofs.YtdlnoeegboapkaaGreatDoor
open Go.RowKit
set_option maxRecDepth 100000
set_option maxHeartbeats 40000000
set_option synthInstance.maxSize 100000
set_option synthInstance.maxHeartbeats 1000000

/-- What a rational number is written as. -/
def fmtQ (x : Rat) : ByteArray := if x.den = 1 then decI x.num else decI x.num ++ (⟨#[47]⟩ ++ decStr x.den)
theorem decI_size (x : Int) : (decI x).size ≤ 2 + (dl x.natAbs).length := by
  have := decStr_size x.natAbs
  unfold decI
  split
  · rw [ByteArray.size_append]; show 1 + _ ≤ _; omega
  · omega
theorem rWholeC {w : World} {n1 : Int} {d1 : Int} {p1 : Option Addr} {x : Rat} {k1 : Nat} [h1 : CF w (.agg #[.int .i64 n1, .int .i64 d1, .pointer p1]) x k1] (b : k1 ≤ 900000) :
    Calls Tryz.prog 194 #[.agg #[.int .i64 n1, .int .i64 d1, .pointer p1]] w (fun e w' => e = .returned (.bool (decide (x.den = 1))) ∧ Below w.heap.size w w') := by
  by_cases hx : x.den = 1
  · have HE : Hid (decide (x.den = 1) = true) := by show _ = _; simp [hx]
    rcases CF.cases h1 with ⟨rfl, en1, ed1, bn1, bm1, bd1, be1, bk1⟩ | ⟨rfl, rfl, hq1, q1, G1, A1, L1, C1, AA1, LL1, CC1, rfl, hB1, hZ1, hN1⟩
    · have e0 : (d1 == 0) = true := by rw [show d1 = 0 by omega]; rfl
      clear en1 ed1 hx
      go_enter Tryz.func194, Tryz.ntmps194
      go_wp2_with (first
    | (go_at_call 133; (with_reducible refine Calls.cS (bitsC (by omega)) ?_); intros))
      go_ret
      exact E.fin (by rw [HE.out]; rfl)
    · have e0 : (((nbits x.den : Nat) : Int) == 1) = true := by
        rw [hx]; decide +kernel
      clear hx
      go_enter Tryz.func194, Tryz.ntmps194
      go_wp2_with (first
    | (go_at_call 133; (with_reducible refine Calls.cS (bitsC (by omega)) ?_); intros))
      go_ret
      exact E.fin (by rw [HE.out]; rfl)
  · have HE : Hid (decide (x.den = 1) = false) := by show _ = _; simp [hx]
    rcases CF.cases h1 with ⟨rfl, en1, ed1, bn1, bm1, bd1, be1, bk1⟩ | ⟨rfl, rfl, hq1, q1, G1, A1, L1, C1, AA1, LL1, CC1, rfl, hB1, hZ1, hN1⟩
    · have e0 : (d1 == 0) = false := by rw [beq_eq_false_iff_ne]; omega
      clear en1 ed1 hx
      go_enter Tryz.func194, Tryz.ntmps194
      go_wp2_with (first
    | (go_at_call 133; (with_reducible refine Calls.cS (bitsC (by omega)) ?_); intros))
      go_ret
      exact E.fin (by rw [HE.out]; rfl)
    · have e0 : (((nbits x.den : Nat) : Int) == 1) = false := by
        rw [beq_eq_false_iff_ne]; have := @nbits1 x.den; have := den_pos' x; have := @nbits0 x.den; omega
      clear hx
      go_enter Tryz.func194, Tryz.ntmps194
      go_wp2_with (first
    | (go_at_call 133; (with_reducible refine Calls.cS (bitsC (by omega)) ?_); intros))
      go_ret
      exact E.fin (by rw [HE.out]; rfl)

theorem rStringC {w : World} {n1 : Int} {d1 : Int} {p1 : Option Addr} {x : Rat} {k1 : Nat} [h1 : CF w (.agg #[.int .i64 n1, .int .i64 d1, .pointer p1]) x k1] (b : k1 ≤ 900000) (hl : (dl x.num.natAbs).length ≤ 100000000) (hl2 : (dl x.den).length ≤ 100000000) :
    Calls Tryz.prog 135 #[.agg #[.int .i64 n1, .int .i64 d1, .pointer p1]] w (fun e w' => e = .returned (.string (fmtQ x)) ∧ Below w.heap.size w w') := by
  by_cases hd : x.den = 1
  · have e0 : decide (x.den = 1) = true := by simp [hd]
    have HE : Hid (fmtQ x = decI x.num) := if_pos hd
    clear hd
    go_enter Tryz.func135, Tryz.ntmps135
    go_wp2_with (first
    | (go_at_call 155; (with_reducible refine Calls.cZ (rNumC (by omega)) ?_); intros)
    | (go_at_call 156; (with_reducible refine Calls.cN (rDenC (by omega)) ?_); intros)
    | (go_at_call 193; (with_reducible refine Calls.cE (intFormatC (by omega)) ?_); intros)
    | (go_at_call 195; (with_reducible refine Calls.cE (natFormatC (by omega)) ?_); intros)
    | (go_at_call 194; (with_reducible refine Calls.cE (rWholeC (by omega)) ?_); intros))
    go_ret
    exact E.fin (by rw [HE.out]; rfl)
  · have e0 : decide (x.den = 1) = false := by simp [hd]
    have HE : Hid (fmtQ x = decI x.num ++ (⟨#[47]⟩ ++ decStr x.den)) := if_neg hd
    have s1 := decI_size x.num
    have s2 := decStr_size x.den
    have z1 : (9223372036854775807 < 1 + (decStr x.den).size) ↔ False := ⟨fun h => by omega, False.elim⟩
    have z2 : (9223372036854775807 < (decI x.num).size + (1 + (decStr x.den).size)) ↔ False := ⟨fun h => by omega, False.elim⟩
    clear hd s1 s2
    go_enter Tryz.func135, Tryz.ntmps135
    go_wp2_with (first
    | (go_at_call 155; (with_reducible refine Calls.cZ (rNumC (by omega)) ?_); intros)
    | (go_at_call 156; (with_reducible refine Calls.cN (rDenC (by omega)) ?_); intros)
    | (go_at_call 193; (with_reducible refine Calls.cE (intFormatC (by omega)) ?_); intros)
    | (go_at_call 195; (with_reducible refine Calls.cE (natFormatC (by omega)) ?_); intros)
    | (go_at_call 194; (with_reducible refine Calls.cE (rWholeC (by omega)) ?_); intros))
    go_ret
    exact E.fin (by rw [HE.out]; rfl)

theorem ratFormatC {w : World} {g1 : Bool} {a1 : Option Addr} {l1 : Nat} {c1 : Nat} {aa1 : Option Addr} {ll1 : Nat} {cc1 : Nat} {x : Rat} {k1 : Nat} [h1 : CW w (.agg #[.bool g1, .slice a1 l1 c1, .slice aa1 ll1 cc1]) x k1] (b : k1 ≤ 700000) (hl : (dl x.num.natAbs).length ≤ 100000000) (hl2 : (dl x.den).length ≤ 100000000) :
    Calls Tryz.prog 68 #[.agg #[.bool g1, .slice a1 l1 c1, .slice aa1 ll1 cc1]] w (fun e w' => e = .returned (.string (fmtQ x)) ∧ Below w.heap.size w w') := by
  go_enter Tryz.func68, Tryz.ntmps68
  go_wp2_with (first
    | (go_at_call 134; (with_reducible refine Calls.cF (ofC (by omega)) ?_); intros)
    | (go_at_call 135; (with_reducible refine Calls.cE (rStringC (by omega) hl hl2) ?_); intros))
  go_ret
  exact E.fin rfl

/-- Whether a text has a stroke, and where; the text before it and behind it. -/
def hasSlash (l : List UInt8) : Bool := l.contains 47
def slashAt (l : List UInt8) : Nat := l.findIdx (fun b => b == 47)
def cutL (l : List UInt8) : List UInt8 := if hasSlash l = true then l.take (slashAt l) else l
def cutR (l : List UInt8) : List UInt8 := if hasSlash l = true then l.drop (slashAt l + 1) else []
theorem slash_lt {l : List UInt8} (h : hasSlash l = true) : slashAt l < l.length := by
  unfold slashAt
  rw [List.findIdx_lt_length]
  exact ⟨47, by simpa [hasSlash] using h, by decide⟩
theorem index_slash : ∀ l : List UInt8, Lib.indexByte l 47 = if hasSlash l = true then (slashAt l : Int) else -1
  | [] => rfl
  | b :: l => by
    have ih := index_slash l
    unfold Lib.indexByte
    by_cases hb : (b == 47) = true
    · have e1 : hasSlash (b :: l) = true := by unfold hasSlash; simp [beq_iff_eq.1 hb]
      have e2 : slashAt (b :: l) = 0 := by unfold slashAt; rw [List.findIdx_cons, hb]; rfl
      rw [if_pos hb, if_pos e1, e2]; rfl
    · have hb' : (b == 47) = false := by simpa using hb
      have e1 : hasSlash (b :: l) = hasSlash l := by
        unfold hasSlash
        rw [List.contains_cons]
        have : ((47 : UInt8) == b) = false := by rw [beq_eq_false_iff_ne] at hb' ⊢; exact fun e => hb' e.symm
        rw [this, Bool.false_or]
      have e2 : slashAt (b :: l) = slashAt l + 1 := by unfold slashAt; rw [List.findIdx_cons, hb']; rfl
      rw [if_neg hb, e1, e2, ih]
      by_cases h : hasSlash l = true
      · rw [if_pos h, if_pos h]
        have : (((slashAt l : Nat) : Int) == -1) = false := by rw [beq_eq_false_iff_ne]; omega
        rw [this]; simp
      · rw [if_neg h, if_neg h]; rfl
/-- What strings.Cut returns. -/
def CutRet (w : World) (l : List UInt8) (e : Ending) (w' : World) : Prop :=
  ∃ p q, e = .returned (.tuple #[.string p, .string q, .bool (hasSlash l)]) ∧ p.data.toList = cutL l ∧ q.data.toList = cutR l ∧ Below w.heap.size w w'
theorem cutI (s : ByteArray) (w : World) (hsz : s.size ≤ 1000000000) : Calls Tryz.prog 130 #[.string s, .string ⟨#[47]⟩] w (CutRet w s.data.toList) := by
  have hI := @run_callFunc_extern Tryz.prog 283 _ Extern.BytealgIndexByte.indexByte Tryz.func283 (by kernel_rfl) (by kernel_rfl) (by kernel_rfl) (by kernel_rfl)
  have hix0 : ∀ w, (Instr.index 9 (.string ⟨#[47]⟩) (.int .i64 0)).run Tryz.prog w = .ok (.int .u8 47) w := fun _ => by kernel_rfl
  have hlen := str_len s
  by_cases hS : hasSlash s.data.toList = true
  · have hlt := slash_lt hS
    rw [← hlen] at hlt
    have hv : ∀ w, (Extern.BytealgIndexByte.indexByte #[.string s, .int .u8 47]).run Tryz.prog w = .ok (.int .i64 (slashAt s.data.toList : Nat)) w := fun w => by
      rw [run_indexByte_string, Lib.firstIdx_eq]
      have := index_slash s.data.toList
      rw [if_pos hS] at this
      rw [show (47 : Int).toNat.toUInt8 = 47 from rfl, this]
    have HF : Hid (∃ p q : ByteArray, p = s.extract 0 (slashAt s.data.toList) ∧ q = s.extract (slashAt s.data.toList + 1) s.size ∧ p.data.toList = cutL s.data.toList ∧ q.data.toList = cutR s.data.toList) := by
      refine ⟨_, _, rfl, rfl, ?_, ?_⟩
      · rw [Lib.extract_data, cutL, if_pos hS]; simp
      · rw [Lib.extract_data, cutR, if_pos hS, List.take_of_length_le (by rw [List.length_drop, ← hlen]; omega)]
    have HS := Lib.hid hS
    have hone : (([47] == s.toList) = true ∧ slashAt s.data.toList = 0) ∨ ([47] == s.toList) = false := by
      rw [Lib.toList_data]
      by_cases h : s.data.toList = [47]
      · left; rw [h]; exact ⟨rfl, rfl⟩
      · right; rw [beq_eq_false_iff_ne]; exact fun e => h e.symm
    have hw1 : IntKind.i64.wrap 1 = 1 := by decide
    clear hS hlen
    generalize slashAt s.data.toList = n at *
    rcases hone with ⟨hone, rfl⟩ | hone
    · have hlt2 : (1 : Int) ≤ (s.size : Int) := by omega
      try (have hlt3 : (n : Int) + 1 ≤ (s.size : Int) := by omega)
      try (have hlt4 : n ≤ s.size := by omega)
      try (have hlt5 : IntKind.i64.wrap ((n : Int) + 1) = (n : Int) + 1 := by simp [IntKind.wrap, IntKind.signed, IntKind.bits]; omega)
      try (have hlt6 : (0 : Int) ≤ (n : Int) + 1 := by omega)
      go_enter Tryz.func130, Tryz.ntmps130
      go_wp2
      refine region_cls (by kernel_rfl) [] (fun hHeld => ?_)
      refine wpAnyH_take (i := 0) (v := ?z92) (by simp; rfl) (by kernel_rfl) (by kernel_rfl) (by kernel_rfl) (by exact fun _ _ _ h => h) (Or.inl ⟨by rfl, ?yz92⟩) hHeld ?_
      case yz92 => (intro wx hSw; have hSx := Ex1.mk hSw; go_simp; (try with_reducible rfl))
      try simp only [Act.put, List.setIfInBounds_toArray, List.set_cons_zero, List.set_cons_succ]
      refine wpAnyH_take (i := 1) (v := ?z93) (by simp; rfl) (by kernel_rfl) (by kernel_rfl) (by kernel_rfl) (by exact fun _ _ _ h => h) (Or.inl ⟨by rfl, ?yz93⟩) hHeld ?_
      case yz93 => (intro wx hSw; have hSx := Ex1.mk hSw; go_simp; (try with_reducible rfl))
      try simp only [Act.put, List.setIfInBounds_toArray, List.set_cons_zero, List.set_cons_succ]
      refine wpAnyH_take (i := 2) (v := ?z94) (by simp; rfl) (by kernel_rfl) (by kernel_rfl) (by kernel_rfl) (by exact fun _ _ _ h => h) (Or.inl ⟨by rfl, ?yz94⟩) hHeld ?_
      case yz94 => (intro wx hSw; have hSx := Ex1.mk hSw; go_simp; (try with_reducible rfl))
      try simp only [Act.put, List.setIfInBounds_toArray, List.set_cons_zero, List.set_cons_succ]
      refine wpAnyH_take (i := 3) (v := ?z95) (by simp; rfl) (by kernel_rfl) (by kernel_rfl) (by kernel_rfl) (by exact fun _ _ _ h => h) (Or.inl ⟨by rfl, ?yz95⟩) hHeld ?_
      case yz95 => (intro wx hSw; have hSx := Ex1.mk hSw; go_simp; (try with_reducible rfl))
      try simp only [Act.put, List.setIfInBounds_toArray, List.set_cons_zero, List.set_cons_succ]
      refine wpAnyH_take (i := 4) (v := ?z96) (by simp; rfl) (by kernel_rfl) (by kernel_rfl) (by kernel_rfl) (by exact fun _ _ _ h => h) (Or.inl ⟨by rfl, ?yz96⟩) hHeld ?_
      case yz96 => (intro wx hSw; have hSx := Ex1.mk hSw; go_simp; (try with_reducible rfl))
      try simp only [Act.put, List.setIfInBounds_toArray, List.set_cons_zero, List.set_cons_succ]
      refine wpAnyH_take (i := 5) (v := ?z97) (by simp; rfl) (by kernel_rfl) (by kernel_rfl) (by kernel_rfl) (by exact fun _ _ _ h => h) (Or.inl ⟨by rfl, ?yz97⟩) hHeld ?_
      case yz97 => (intro wx hSw; have hSx := Ex1.mk hSw; go_simp; (try with_reducible rfl))
      try simp only [Act.put, List.setIfInBounds_toArray, List.set_cons_zero, List.set_cons_succ]
      refine wpAnyH_take (i := 6) (v := ?z98) (by simp; rfl) (by kernel_rfl) (by kernel_rfl) (by kernel_rfl) (by exact fun _ _ _ h => h) (Or.inl ⟨by rfl, ?yz98⟩) hHeld ?_
      case yz98 => (intro wx hSw; have hSx := Ex1.mk hSw; go_simp; (try with_reducible rfl))
      try simp only [Act.put, List.setIfInBounds_toArray, List.set_cons_zero, List.set_cons_succ]
      refine wpAnyH_take (i := 7) (v := ?z99) (by simp; rfl) (by kernel_rfl) (by kernel_rfl) (by kernel_rfl) (by exact fun _ _ _ h => h) (Or.inl ⟨by rfl, ?yz99⟩) hHeld ?_
      case yz99 => (intro wx hSw; have hSx := Ex1.mk hSw; go_simp; (try with_reducible rfl))
      try simp only [Act.put, List.setIfInBounds_toArray, List.set_cons_zero, List.set_cons_succ]
      refine wpAnyH_take (i := 8) (v := ?z100) (by simp; rfl) (by kernel_rfl) (by kernel_rfl) (by kernel_rfl) (by exact fun _ _ _ h => h) (Or.inl ⟨by rfl, ?yz100⟩) hHeld ?_
      case yz100 => (intro wx hSw; have hSx := Ex1.mk hSw; go_simp; (try with_reducible rfl))
      try simp only [Act.put, List.setIfInBounds_toArray, List.set_cons_zero, List.set_cons_succ]
      refine wpAnyH_take (i := 9) (v := ?z101) (by simp; rfl) (by kernel_rfl) (by kernel_rfl) (by kernel_rfl) (by exact fun _ _ _ h => h) (Or.inl ⟨by rfl, ?yz101⟩) hHeld ?_
      case yz101 => (intro wx hSw; have hSx := Ex1.mk hSw; go_simp; (try with_reducible rfl))
      try simp only [Act.put, List.setIfInBounds_toArray, List.set_cons_zero, List.set_cons_succ]
      refine wpAnyH_take (i := 10) (v := ?z102) (by simp; rfl) (by kernel_rfl) (by kernel_rfl) (by kernel_rfl) (by exact fun _ _ _ h => h) (Or.inl ⟨by rfl, ?yz102⟩) hHeld ?_
      case yz102 => (intro wx hSw; have hSx := Ex1.mk hSw; go_simp; (try with_reducible rfl))
      try simp only [Act.put, List.setIfInBounds_toArray, List.set_cons_zero, List.set_cons_succ]
      refine wpAnyH_take (i := 11) (v := ?z103) (by simp; rfl) (by kernel_rfl) (by kernel_rfl) (by kernel_rfl) (by exact fun _ _ _ h => h) (Or.inl ⟨by rfl, ?yz103⟩) hHeld ?_
      case yz103 => (intro wx hSw; have hSx := Ex1.mk hSw; go_simp; (try with_reducible rfl))
      try simp only [Act.put, List.setIfInBounds_toArray, List.set_cons_zero, List.set_cons_succ]
      refine wpAnyH_done (by kernel_rfl) ?_ _
      clear hHeld
      go_wp2
      go_ret3
      obtain ⟨p, q, rfl, rfl, h1, h2⟩ := HF.out
      have e00 : s.extract 0 0 = ByteArray.empty := by simp
      first
        | exact ⟨_, _, by rw [HS.out]; rfl, h1, h2, (inferInstance : Kp w _).out⟩
        | (rw [e00] at h1; exact ⟨_, _, by rw [HS.out]; rfl, h1, h2, (inferInstance : Kp w _).out⟩)
    · have hlt2 : (1 : Int) ≤ (s.size : Int) := by omega
      try (have hlt3 : (n : Int) + 1 ≤ (s.size : Int) := by omega)
      try (have hlt4 : n ≤ s.size := by omega)
      try (have hlt5 : IntKind.i64.wrap ((n : Int) + 1) = (n : Int) + 1 := by simp [IntKind.wrap, IntKind.signed, IntKind.bits]; omega)
      try (have hlt6 : (0 : Int) ≤ (n : Int) + 1 := by omega)
      go_enter Tryz.func130, Tryz.ntmps130
      go_wp2
      refine region_cls (by kernel_rfl) [] (fun hHeld => ?_)
      refine wpAnyH_take (i := 0) (v := ?z104) (by simp; rfl) (by kernel_rfl) (by kernel_rfl) (by kernel_rfl) (by exact fun _ _ _ h => h) (Or.inl ⟨by rfl, ?yz104⟩) hHeld ?_
      case yz104 => (intro wx hSw; have hSx := Ex1.mk hSw; go_simp; (try with_reducible rfl))
      try simp only [Act.put, List.setIfInBounds_toArray, List.set_cons_zero, List.set_cons_succ]
      refine wpAnyH_take (i := 1) (v := ?z105) (by simp; rfl) (by kernel_rfl) (by kernel_rfl) (by kernel_rfl) (by exact fun _ _ _ h => h) (Or.inl ⟨by rfl, ?yz105⟩) hHeld ?_
      case yz105 => (intro wx hSw; have hSx := Ex1.mk hSw; go_simp; (try with_reducible rfl))
      try simp only [Act.put, List.setIfInBounds_toArray, List.set_cons_zero, List.set_cons_succ]
      refine wpAnyH_take (i := 2) (v := ?z106) (by simp; rfl) (by kernel_rfl) (by kernel_rfl) (by kernel_rfl) (by exact fun _ _ _ h => h) (Or.inl ⟨by rfl, ?yz106⟩) hHeld ?_
      case yz106 => (intro wx hSw; have hSx := Ex1.mk hSw; go_simp; (try with_reducible rfl))
      try simp only [Act.put, List.setIfInBounds_toArray, List.set_cons_zero, List.set_cons_succ]
      refine wpAnyH_take (i := 3) (v := ?z107) (by simp; rfl) (by kernel_rfl) (by kernel_rfl) (by kernel_rfl) (by exact fun _ _ _ h => h) (Or.inl ⟨by rfl, ?yz107⟩) hHeld ?_
      case yz107 => (intro wx hSw; have hSx := Ex1.mk hSw; go_simp; (try with_reducible rfl))
      try simp only [Act.put, List.setIfInBounds_toArray, List.set_cons_zero, List.set_cons_succ]
      refine wpAnyH_take (i := 4) (v := ?z108) (by simp; rfl) (by kernel_rfl) (by kernel_rfl) (by kernel_rfl) (by exact fun _ _ _ h => h) (Or.inl ⟨by rfl, ?yz108⟩) hHeld ?_
      case yz108 => (intro wx hSw; have hSx := Ex1.mk hSw; go_simp; (try with_reducible rfl))
      try simp only [Act.put, List.setIfInBounds_toArray, List.set_cons_zero, List.set_cons_succ]
      refine wpAnyH_take (i := 5) (v := ?z109) (by simp; rfl) (by kernel_rfl) (by kernel_rfl) (by kernel_rfl) (by exact fun _ _ _ h => h) (Or.inl ⟨by rfl, ?yz109⟩) hHeld ?_
      case yz109 => (intro wx hSw; have hSx := Ex1.mk hSw; go_simp; (try with_reducible rfl))
      try simp only [Act.put, List.setIfInBounds_toArray, List.set_cons_zero, List.set_cons_succ]
      refine wpAnyH_take (i := 6) (v := ?z110) (by simp; rfl) (by kernel_rfl) (by kernel_rfl) (by kernel_rfl) (by exact fun _ _ _ h => h) (Or.inl ⟨by rfl, ?yz110⟩) hHeld ?_
      case yz110 => (intro wx hSw; have hSx := Ex1.mk hSw; go_simp; (try with_reducible rfl))
      try simp only [Act.put, List.setIfInBounds_toArray, List.set_cons_zero, List.set_cons_succ]
      refine wpAnyH_take (i := 7) (v := ?z111) (by simp; rfl) (by kernel_rfl) (by kernel_rfl) (by kernel_rfl) (by exact fun _ _ _ h => h) (Or.inl ⟨by rfl, ?yz111⟩) hHeld ?_
      case yz111 => (intro wx hSw; have hSx := Ex1.mk hSw; go_simp; (try with_reducible rfl))
      try simp only [Act.put, List.setIfInBounds_toArray, List.set_cons_zero, List.set_cons_succ]
      refine wpAnyH_take (i := 8) (v := ?z112) (by simp; rfl) (by kernel_rfl) (by kernel_rfl) (by kernel_rfl) (by exact fun _ _ _ h => h) (Or.inl ⟨by rfl, ?yz112⟩) hHeld ?_
      case yz112 => (intro wx hSw; have hSx := Ex1.mk hSw; go_simp; (try with_reducible rfl))
      try simp only [Act.put, List.setIfInBounds_toArray, List.set_cons_zero, List.set_cons_succ]
      refine wpAnyH_take (i := 9) (v := ?z113) (by simp; rfl) (by kernel_rfl) (by kernel_rfl) (by kernel_rfl) (by exact fun _ _ _ h => h) (Or.inl ⟨by rfl, ?yz113⟩) hHeld ?_
      case yz113 => (intro wx hSw; have hSx := Ex1.mk hSw; go_simp; (try with_reducible rfl))
      try simp only [Act.put, List.setIfInBounds_toArray, List.set_cons_zero, List.set_cons_succ]
      refine wpAnyH_take (i := 10) (v := ?z114) (by simp; rfl) (by kernel_rfl) (by kernel_rfl) (by kernel_rfl) (by exact fun _ _ _ h => h) (Or.inl ⟨by rfl, ?yz114⟩) hHeld ?_
      case yz114 => (intro wx hSw; have hSx := Ex1.mk hSw; go_simp; (try with_reducible rfl))
      try simp only [Act.put, List.setIfInBounds_toArray, List.set_cons_zero, List.set_cons_succ]
      refine wpAnyH_take (i := 11) (v := ?z115) (by simp; rfl) (by kernel_rfl) (by kernel_rfl) (by kernel_rfl) (by exact fun _ _ _ h => h) (Or.inl ⟨by rfl, ?yz115⟩) hHeld ?_
      case yz115 => (intro wx hSw; have hSx := Ex1.mk hSw; go_simp; (try with_reducible rfl))
      try simp only [Act.put, List.setIfInBounds_toArray, List.set_cons_zero, List.set_cons_succ]
      refine wpAnyH_done (by kernel_rfl) ?_ _
      clear hHeld
      go_wp2
      go_ret3
      obtain ⟨p, q, rfl, rfl, h1, h2⟩ := HF.out
      have e00 : s.extract 0 0 = ByteArray.empty := by simp
      first
        | exact ⟨_, _, by rw [HS.out]; rfl, h1, h2, (inferInstance : Kp w _).out⟩
        | (rw [e00] at h1; exact ⟨_, _, by rw [HS.out]; rfl, h1, h2, (inferInstance : Kp w _).out⟩)
  · have hv : ∀ w, (Extern.BytealgIndexByte.indexByte #[.string s, .int .u8 47]).run Tryz.prog w = .ok (.int .i64 (-1)) w := fun w => by
      rw [run_indexByte_string, Lib.firstIdx_eq]
      have := index_slash s.data.toList
      rw [if_neg hS] at this
      rw [show (47 : Int).toNat.toUInt8 = 47 from rfl, this]
    have h1 : Hid (s.data.toList = cutL s.data.toList) := by show _ = _; rw [cutL, if_neg hS]
    have h2 : Hid ((⟨#[]⟩ : ByteArray).data.toList = cutR s.data.toList) := by show _ = _; rw [cutR, if_neg hS]
    have HS : Hid (hasSlash s.data.toList = false) := by show _ = _; simpa using hS
    have hone : ([47] == s.toList) = false := by
      rw [Lib.toList_data, beq_eq_false_iff_ne]
      intro e
      rw [← e] at hS
      exact hS rfl
    clear hS hlen
    go_enter Tryz.func130, Tryz.ntmps130
    go_wp2
    go_ret3
    exact ⟨_, _, by rw [HS.out]; rfl, h1.out, h2.out, (inferInstance : Kp w _).out⟩
theorem cutC (s : ByteArray) (w : World) (hsz : s.size ≤ 1000000000) : Calls Tryz.prog 66 #[.string s, .string ⟨#[47]⟩] w (CutRet w s.data.toList) := by
  go_enter Tryz.func66, Tryz.ntmps66
  go_wp2_with (go_at_call 130; refine (cutI s w hsz).mono ?_; rintro e w' ⟨p, q, rfl, h1, h2, hb⟩)
  go_ret3
  exact ⟨_, _, rfl, h1, h2, hb⟩
end Go.Proofs.YtdlnoeegboapkaaGreatDoor
