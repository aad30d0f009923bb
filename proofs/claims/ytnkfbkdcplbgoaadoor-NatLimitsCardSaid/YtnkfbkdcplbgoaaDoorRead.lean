/-
  The reference's reading and writing of decimal digits.
  Printed by a small program (mkread.py).
-/
import Derived.Test.YtnkfbkdcplbgoaaDoorParse2
import Derived.Test.YtnkfbkdcplbgoaaDoorFmt
namespace Go.Proofs.YtnkfbkdcplbgoaaDoor
open Go.RowKit

instance CN.ten {W : World} {b : Nat} [h : Sz W b] : CN (W.alloc (.cells #[.int .u32 10] 79)) (.slice (some ⟨b, 0, none⟩) 1 1) 10 1 := ⟨by
  rw [← h.out]
  exact .lit (rd_lit rfl [10] (dig1 (by omega)) (by simp) #[.int .u32 10] rfl 1 rfl) (nf_one (by omega) (by omega)) (by simp)⟩
theorem CN.re {W : World} {v : Value} {n n' k k' : Nat} (h : CN W v n k) (e : n = n') (b : (nf n').length ≤ k') : CN W v n' k' := by
  subst e; exact ⟨h.out.1, b⟩
/-- What num.Read returns of digits. -/
def ReadRet (w : World) (m : Nat) (e : Ending) (w' : World) : Prop := ∃ a l c b, e = .returned (.tuple #[.slice a l c, .bool b]) ∧ CN w' (.slice a l c) m 4097 ∧ Below w.heap.size w w'
set_option maxRecDepth 100000 in
set_option maxHeartbeats 4000000 in
set_option synthInstance.maxSize 100000 in
set_option synthInstance.maxHeartbeats 1000000 in
theorem numReadC (s : ByteArray) (w : World) (hsz : s.size ≤ 4096) (hD : ∀ b ∈ s.data.toList, isD b = true) : Calls Tryd.prog 48 #[.string s] w (ReadRet w (bval s.data.toList)) := by
  have HLEN := Lib.hid (str_len s)
  have HD := Lib.hid hD
  have HB : Hid (∀ k, k ≤ s.size → (nf (bval (s.data.toList.take k))).length ≤ 4097) := fun k hk => by
    refine Nat.le_trans (nf_bval_len fun b hb => hD b (List.mem_of_mem_take hb)) ?_
    rw [List.length_take]; omega
  clear hD
  go_enter Tryd.func48, Tryd.ntmps48
  go_wp2_with fail
  go_loopw [4, 5] (fun av iv wr => ∃ (k : Nat) (a : Option Addr) (l c : Nat), k ≤ s.size ∧ iv = .int .i64 k ∧ av = .slice a l c ∧ CN wr (.slice a l c) (bval (s.data.toList.take k)) 4097 ∧ Kp w wr) (fun _ i _ => s.size - (intOf i).toNat)
  case atStart => exact ⟨0, none, 0, 0, Nat.zero_le _, rfl, rfl, CN.re CN.nil rfl (by rw [List.take_zero]; exact Nat.zero_le _), inferInstance⟩
  case round =>
    obtain ⟨k, a, l, c, hk, rfl, rfl, i1, i2⟩ := hrel
    by_cases hlt : k < s.size
    · have hix := ix_str s k hlt
      obtain ⟨d0, d1, d2⟩ := isD_bd (HD.out _ (byteAt_mem hlt))
      have HS : Hid (bval (s.data.toList.take (k + 1)) = 10 * bval (s.data.toList.take k) + bdig (byteAt s k)) := by show _ = _; rw [take_byte hlt]; exact bvalF_snoc 0 _ _
      have HB1 := Lib.hid (HB.out (k + 1) (by omega))
      have hbd : bdig (byteAt s k) = (byteAt s k).toNat - 48 := rfl
      generalize bval (s.data.toList.take k) = m at *
      generalize bdig (byteAt s k) = d at *
      generalize (byteAt s k).toNat = x at *
      obtain rfl : x = 48 + d := by omega
      have hwd : ((d : Int)).natAbs = d := Int.natAbs_natCast d
      have hw8 : IntKind.u8.wrap (48 + (d : Int) - 48) = d := by rw [show (48 : Int) + d - 48 = d by omega]; simp [IntKind.wrap, IntKind.signed, IntKind.bits]; omega
      have hw64 : IntKind.u64.wrap (d : Int) = d := by simp [IntKind.wrap, IntKind.signed, IntKind.bits]; omega
      clear hbd d1 d2
      go_wp2_with fail
      refine region_cls (by kernel_rfl) [] (fun hHeld => ?_)
      refine wpAnyH_take (i := 0) (v := ?z5) (by simp; rfl) (by kernel_rfl) (by kernel_rfl) (by kernel_rfl) (by exact fun _ _ _ h => h) (Or.inl ⟨by rfl, ?yz5⟩) hHeld ?_
      case yz5 => (intro wx hSw; have hSx := Ex1.mk hSw; go_simp; (try with_reducible rfl))
      try simp only [Act.put, List.setIfInBounds_toArray, List.set_cons_zero, List.set_cons_succ]
      refine wpAnyH_take (i := 3) (v := ?z6) (by simp; rfl) (by kernel_rfl) (by kernel_rfl) (by kernel_rfl) (by exact fun _ _ _ h => h) (Or.inl ⟨by rfl, ?yz6⟩) hHeld ?_
      case yz6 => (intro wx hSw; have hSx := Ex1.mk hSw; go_simp; (try with_reducible rfl))
      try simp only [Act.put, List.setIfInBounds_toArray, List.set_cons_zero, List.set_cons_succ]
      refine wpAnyH_take (i := 4) (v := ?z7) (by simp; rfl) (by kernel_rfl) (by kernel_rfl) (by kernel_rfl) (by exact fun _ _ _ h => h) (Or.inl ⟨by rfl, ?yz7⟩) hHeld ?_
      case yz7 => (intro wx hSw; have hSx := Ex1.mk hSw; go_simp; (try with_reducible rfl))
      try simp only [Act.put, List.setIfInBounds_toArray, List.set_cons_zero, List.set_cons_succ]
      refine wpAnyH_take (i := 5) (v := ?z8) (by simp; rfl) (by kernel_rfl) (by kernel_rfl) (by kernel_rfl) (by exact fun _ _ _ h => h) (Or.inl ⟨by rfl, ?yz8⟩) hHeld ?_
      case yz8 => (intro wx hSw; have hSx := Ex1.mk hSw; go_simp; (try with_reducible rfl))
      try simp only [Act.put, List.setIfInBounds_toArray, List.set_cons_zero, List.set_cons_succ]
      refine wpAnyH_take (i := 6) (v := ?z9) (by simp; rfl) (by kernel_rfl) (by kernel_rfl) (by kernel_rfl) (by exact fun _ _ _ h => h) (Or.inl ⟨by rfl, ?yz9⟩) hHeld ?_
      case yz9 => (intro wx hSw; have hSx := Ex1.mk hSw; go_simp; (try with_reducible rfl))
      try simp only [Act.put, List.setIfInBounds_toArray, List.set_cons_zero, List.set_cons_succ]
      refine wpAnyH_take (i := 7) (v := ?z10) (by simp; rfl) (by kernel_rfl) (by kernel_rfl) (by kernel_rfl) (by exact fun _ _ _ h => h) (Or.inl ⟨by rfl, ?yz10⟩) hHeld ?_
      case yz10 => (intro wx hSw; have hSx := Ex1.mk hSw; go_simp; (try with_reducible rfl))
      try simp only [Act.put, List.setIfInBounds_toArray, List.set_cons_zero, List.set_cons_succ]
      refine wpAnyH_ready (rs := [1]) (by kernel_rfl) (by simp) ?_
      refine AllReadyH.cons (by simp; rfl) (fun K hK => ?_) AllReadyH.nil
      go_simp
      refine hK.out _ _ inferInstance ?_
      clear hHeld hK K
      intro hHeld
      try simp only [Act.put, List.setIfInBounds_toArray, List.set_cons_zero, List.set_cons_succ]
      refine wpAnyH_ready (rs := [2]) (by kernel_rfl) (by simp) ?_
      refine AllReadyH.cons (by simp; rfl) (fun K hK => ?_) AllReadyH.nil
      go_simp
      (go_at_call 76; (with_reducible refine Calls.cN (numProductC (by omega)) ?_); intros)
      refine hK.out _ _ inferInstance ?_
      clear hHeld hK K
      intro hHeld
      try simp only [Act.put, List.setIfInBounds_toArray, List.set_cons_zero, List.set_cons_succ]
      refine wpAnyH_ready (rs := [8]) (by kernel_rfl) (by simp) ?_
      refine AllReadyH.cons (by simp; rfl) (fun K hK => ?_) AllReadyH.nil
      go_simp
      (go_at_call 14; (with_reducible refine Calls.cN (wordC (by omega)) ?_); intros)
      refine hK.out _ _ inferInstance ?_
      clear hHeld hK K
      intro hHeld
      try simp only [Act.put, List.setIfInBounds_toArray, List.set_cons_zero, List.set_cons_succ]
      refine wpAnyH_ready (rs := [9]) (by kernel_rfl) (by simp) ?_
      refine AllReadyH.cons (by simp; rfl) (fun K hK => ?_) AllReadyH.nil
      go_simp
      (go_at_call 75; (with_reducible refine Calls.cN (numSumC (by omega)) ?_); intros)
      refine hK.out _ _ inferInstance ?_
      clear hHeld hK K
      intro hHeld
      try simp only [Act.put, List.setIfInBounds_toArray, List.set_cons_zero, List.set_cons_succ]
      refine wpAnyH_take (i := 10) (v := ?z11) (by simp; rfl) (by kernel_rfl) (by kernel_rfl) (by kernel_rfl) (by exact fun _ _ _ h => h) (Or.inl ⟨by rfl, ?yz11⟩) hHeld ?_
      case yz11 => (intro wx hSw; have hSx := Ex1.mk hSw; go_simp; (try with_reducible rfl))
      try simp only [Act.put, List.setIfInBounds_toArray, List.set_cons_zero, List.set_cons_succ]
      refine wpAnyH_done (by kernel_rfl) ?_ _
      clear hHeld
      go_wp2_with fail
      go_roundw
      case rel => exact ⟨k + 1, _, _, _, by omega, by go_num, rfl, CN.re inferInstance (by rw [HS.out]; omega) HB1.out, inferInstance⟩
      case measure => simp [intOf]; omega
    · obtain rfl : k = s.size := by omega
      have e : s.data.toList.take s.size = s.data.toList := by rw [HLEN.out, List.take_length]
      rw [e] at i1
      go_wp2_with fail
      go_ret2
      exact ⟨_, _, _, _, rfl, i1, i2.out⟩
theorem Calls.kRead {P : Program} {f : FuncId} {args : Array Value} {w : World} {m : Nat} {K : Ending → World → Prop} (h : Calls P f args w (ReadRet w m))
    (hK : ∀ w' [Kp1 w w'] a l c b [CN w' (.slice a l c) m 4097], K (.returned (.tuple #[.slice a l c, .bool b])) w') : Calls P f args w K := by
  refine h.mono ?_
  rintro e w' ⟨a, l, c, b, rfl, hx, hb⟩
  exact @hK w' ⟨hb⟩ a l c b hx
/-- What ref01.ReadN returns. -/
def ReadNRet (w : World) (l : List UInt8) (e : Ending) (w' : World) : Prop := ∃ a n c, e = .returned (.tuple #[.slice a n c, .int .i64 ((pKind l : Nat) : Int)]) ∧ CN w' (.slice a n c) (if pKind l = 0 then bval l else 0) 4097 ∧ Below w.heap.size w w'
theorem Calls.kReadN {P : Program} {f : FuncId} {args : Array Value} {w : World} {l : List UInt8} {K : Ending → World → Prop} (h : Calls P f args w (ReadNRet w l))
    (hK : ∀ w' [Kp1 w w'] a n c [CN w' (.slice a n c) (if pKind l = 0 then bval l else 0) 4097], K (.returned (.tuple #[.slice a n c, .int .i64 ((pKind l : Nat) : Int)])) w') : Calls P f args w K := by
  refine h.mono ?_
  rintro e w' ⟨a, n, c, rfl, hx, hb⟩
  exact @hK w' ⟨hb⟩ a n c hx
set_option maxRecDepth 100000 in
set_option maxHeartbeats 4000000 in
set_option synthInstance.maxSize 100000 in
set_option synthInstance.maxHeartbeats 1000000 in
theorem readNC (s : ByteArray) (w : World) (hsz : s.size ≤ 1000000000) : Calls Tryd.prog 16 #[.string s] w (ReadNRet w s.data.toList) := by
  have HLEN := Lib.hid (str_len s)
  go_enter Tryd.func16, Tryd.ntmps16
  go_wp2_with fail
  go_loop [4] (fun i => ∃ k : Nat, k ≤ s.size ∧ i = .int .i64 k ∧ Hid (∀ b ∈ s.data.toList.take k, isD b = true)) (fun i => s.size - (intOf i).toNat)
  case atStart => exact ⟨0, Nat.zero_le _, rfl, fun b hb => by simp at hb⟩
  case round =>
    obtain ⟨k, hk, rfl, hD⟩ := hrel
    by_cases hlt : k < s.size
    · have hix := ix_str s k hlt
      by_cases hd : isD (byteAt s k) = true
      · obtain ⟨_, d1, d2⟩ := isD_bd hd
        have hD2 : Hid (∀ b ∈ s.data.toList.take (k + 1), isD b = true) := fun b hb => by
          rw [take_byte hlt] at hb
          rcases List.mem_append.1 hb with h | h
          · exact hD.out b h
          · rw [List.mem_singleton.1 h]; exact hd
        clear hd hD
        generalize byteAt s k = x at *
        go_wp2
        go_round
        case rel => exact ⟨k + 1, by omega, by go_num, hD2⟩
        case measure => simp [intOf]; omega
      · have hd : isD (byteAt s k) = false := by simpa using hd
        have HP : Hid (pKind s.data.toList = 1) := by show _ = _; unfold pKind; rw [if_pos (.inr ⟨_, byteAt_mem hlt, hd⟩)]
        have hbd := not_isD hd
        clear hd hD
        generalize byteAt s k = x at *
        rcases hbd with hbd | hbd
        all_goals
          go_wp2
          go_ret2
          exact ⟨_, _, _, by rw [HP.out]; rfl, CN.re CN.nil (by rw [HP.out]; rfl) (by rw [HP.out, if_neg (by decide), nf_zero]; decide), Below.refl _ _⟩
    · obtain rfl : k = s.size := by omega
      have HA : Hid (∀ b ∈ s.data.toList, isD b = true) := fun b hb => hD.out b (by rw [HLEN.out, List.take_length]; exact hb)
      clear hD
      by_cases he : s.data.toList = []
      · have hee : s.toList.isEmpty = true := by rw [Lib.toList_data, he]; rfl
        have HP : Hid (pKind s.data.toList = 1) := by show _ = _; unfold pKind; rw [if_pos (.inl he)]
        clear he
        go_wp2
        go_ret2
        exact ⟨_, _, _, by rw [HP.out]; rfl, CN.re CN.nil (by rw [HP.out]; rfl) (by rw [HP.out, if_neg (by decide), nf_zero]; decide), Below.refl _ _⟩
      · have hee : s.toList.isEmpty = false := by
          rw [Lib.toList_data]
          cases hx : s.data.toList with
          | nil => exact absurd hx he
          | cons => rfl
        have hp : s.data.toList = [] ∨ (∃ b ∈ s.data.toList, isD b = false) → False := fun h => by
          rcases h with h | ⟨b, hb, h⟩
          · exact he h
          · rw [HA.out b hb] at h; cases h
        clear he
        by_cases h4 : 4096 < s.size
        · have HP : Hid (pKind s.data.toList = 2) := by show _ = _; unfold pKind; rw [if_neg hp, if_pos (by rw [← HLEN.out]; exact h4)]
          clear hp
          go_wp2
          go_ret2
          exact ⟨_, _, _, by rw [HP.out]; rfl, CN.re CN.nil (by rw [HP.out]; rfl) (by rw [HP.out, if_neg (by decide), nf_zero]; decide), Below.refl _ _⟩
        · have HP : Hid (pKind s.data.toList = 0) := by show _ = _; unfold pKind; rw [if_neg hp, if_neg (by rw [← HLEN.out]; exact h4)]
          clear hp
          go_wp2_with (go_at_call 48; (with_reducible refine Calls.kRead (numReadC s _ (by omega) HA.out) ?_); intros)
          go_ret2
          exact ⟨_, _, _, by rw [HP.out]; rfl, CN.cast inferInstance (by rw [HP.out]; rfl) (Nat.le_refl _), (inferInstance : Kp w _).out⟩
theorem convert_one (W : World) (x : Int) (d : Nat) (hx : x = (d : Int)) : (convert 22 9 (.slice (some ⟨W.heap.size, 0, none⟩) 1 1)).run Tryd.prog (W.alloc (.cells #[.int .u8 x] 5)) = .ok (.string ⟨#[UInt8.ofNat d]⟩) (W.alloc (.cells #[.int .u8 x] 5)) := by
  subst hx
  have := run_convert_bytes_arg (P := Tryd.prog) (dst := 9) (W.alloc (.cells #[.int .u8 (d : Int)] 5)) 22 5 Tryd.underlying22 Tryd.underlying5 W.heap.size 0 1 1 [(d : Int)] rfl (fun i hi => by
    have h0 : i = 0 := by simpa using hi
    subst h0
    rw [World.cell?_alloc_at _ _ _ _ rfl]; rfl) Tryd.underlying9
  exact this
theorem nf_small {r : Nat} (h0 : r ≠ 0) (h : r < 10) : nf r = [r] := by
  rw [nf_pos h0, show r / 4294967296 = 0 by omega, nf_zero, show r % 4294967296 = r by omega]
theorem rdVal_cn {W : World} {v : Value} {n k : Nat} (h : CN W v n k) : rdVal W v = n := by rw [rdVal_eq h.out.1, val_nf]
theorem cn_cell0 {W : World} {a : Option Addr} {c k r : Nat} (h : CN W (.slice a 1 c) r k) (e : nf r = [r]) : ∃ b off, a = some ⟨b, off, none⟩ ∧ W.cell? ⟨b, off, none⟩ = some (.int .u32 (r : Int)) := by
  obtain ⟨a', cap, hv, _, _, _, hc⟩ := h.out.1
  rw [e] at hv hc
  injection hv with h1 _ _
  subst h1
  obtain ⟨b, off, rfl, hc2⟩ := hc (show 0 < 1 from Nat.zero_lt_one)
  exact ⟨b, off, rfl, hc2 0 (show 0 < 1 from Nat.zero_lt_one)⟩
theorem str_ext {s t : ByteArray} (h : s.data.toList = t.data.toList) : s = t := ByteArray.ext (Array.toList_inj.1 h)
/-- The digits so far as bytes. -/
def revB (D : List Nat) : List UInt8 := (D.map (fun d => UInt8.ofNat (48 + d))).reverse
set_option maxRecDepth 100000 in
set_option maxHeartbeats 4000000 in
set_option synthInstance.maxSize 100000 in
set_option synthInstance.maxHeartbeats 1000000 in
theorem numTextC {w : World} {a1 : Option Addr} {l1 c1 m k1 : Nat} [h1 : CN w (.slice a1 l1 c1) m k1] (b : k1 ≤ 100000 ∧ (dl m).length ≤ 100000000) :
    Calls Tryd.prog 18 #[.slice a1 l1 c1] w fun e w' => e = .returned (.string (decStr m)) ∧ Below w.heap.size w w' := by
  have hl := h1.out.len
  obtain ⟨b1, b2⟩ := b
  by_cases hm : m = 0
  · subst hm
    obtain rfl : l1 = 0 := hl
    clear h1
    go_enter Tryd.func18, Tryd.ntmps18
    go_wp2_with fail
    go_ret
    exact E.fin rfl
  · have hl0 : 0 < l1 := by rw [hl]; exact nf_len_pos hm
    have hl1 : l1 ≤ k1 := by rw [hl]; exact h1.out.2
    have HL := Lib.hid hl
    clear hl
    have hb0 : ((l1 : Int) == 0) = false := by rw [beq_eq_false_iff_ne]; omega
    go_enter Tryd.func18, Tryd.ntmps18
    go_wp2_with fail
    go_loopw [0, 3] (fun av sv wr => ∃ (c : Nat) (D : List Nat) (S : ByteArray) (a : Option Addr) (cap : Nat), av = .slice a (nf c).length cap ∧ sv = .string S ∧ CN wr (.slice a (nf c).length cap) c 100000 ∧ Hid (S.data.toList = revB D) ∧ Hid (D ++ dl c = dl m) ∧ Kp w wr) (fun a _ wr => rdVal wr a)
    case atStart => exact ⟨m, [], ⟨#[]⟩, a1, c1, by rw [← HL.out], rfl, by rw [← HL.out]; exact CN.re h1 rfl (by have := h1.out.2; omega), rfl, rfl, inferInstance⟩
    case round =>
      obtain ⟨c, D, S, a, cap, rfl, rfl, i1, hS, hD, hK⟩ := hrel
      have hdl := dl_le_len hD.out
      have hSs : S.size = D.length := by rw [str_len, hS.out]; simp [revB]
      by_cases hc0 : c = 0
      · subst hc0
        have HE : Hid (S = decStr m) := by
          have e1 : D = dl m := by have := hD.out; rw [dl_zero, List.append_nil] at this; exact this
          show S = _
          refine str_ext ?_
          rw [hS.out, e1]
          show _ = (((decBytes m).map UInt8.ofNat).toArray).toList
          rw [decBytes_pos hm, List.map_reverse, List.map_map]
          rfl
        have hl0 : (nf 0).length = 0 := rfl
        generalize (nf 0).length = n0 at *
        subst hl0
        clear hdl hSs
        go_wp2_with fail
        go_ret
        rw [← HE.out]
        exact ⟨rfl, hK.out⟩
      · have hp := nf_len_pos hc0
        have HM := Lib.hid (rdVal_cn i1)
        have HQ1 := Lib.hid (Nat.le_trans (nf_len_mono (Nat.div_le_self c 10)) i1.out.2)
        have HD2 : Hid ((D ++ [c % 10]) ++ dl (c / 10) = dl m) := by
          show _ = _
          rw [List.append_assoc, ← hD.out, dl_pos hc0]; rfl
        have HLT := Lib.hid (show c / 10 < c by omega)
        have hr10 : c % 10 < 10 := Nat.mod_lt _ (by omega)
        have hsz : (9223372036854775807 < 1 + S.size) ↔ False := ⟨fun h => by omega, False.elim⟩
        clear hdl hSs
        go_wp2_with fail
        with_reducible refine Calls.cQR (divideC (by omega) (by decide)) ?_
        intro w2 _ a4 l4 c4 a5 l5 c5 i4 i5
        obtain rfl : l4 = (nf (c / 10)).length := i4.out.len
        have hl5 := i5.out.len
        generalize c / 10 = q at *
        generalize c % 10 = r at *
        have HS2 : Hid ((⟨#[UInt8.ofNat (48 + r)]⟩ ++ S : ByteArray).data.toList = revB (D ++ [r])) := by
          show _ = _
          rw [ByteArray.data_append, Array.toList_append, hS.out]
          unfold revB
          rw [List.map_append, List.reverse_append]
          rfl
        by_cases hr : r = 0
        · subst hr
          obtain rfl : l5 = 0 := hl5
          have hcv := convert_one w2 48 48 rfl
          go_wp2_with fail
          go_roundw
          case rel => exact ⟨q, D ++ [0], _, a4, c4, rfl, rfl, CN.re inferInstance rfl HQ1.out, HS2, HD2, inferInstance⟩
          case measure =>
            show rdVal _ _ < rdVal _ _
            rw [HM.out]
            exact Nat.lt_of_le_of_lt (Nat.le_of_eq (rdVal_cn inferInstance)) HLT.out
        · have hn5 := nf_small hr hr10
          rw [hn5] at hl5
          obtain rfl : l5 = 1 := hl5
          have hcv := convert_one w2 (48 + r) (48 + r) (by omega)
          obtain ⟨b5, o5, rfl, hld⟩ := cn_cell0 i5 hn5
          have hw1 : IntKind.u8.wrap (r : Int) = r := by simp [IntKind.wrap, IntKind.signed, IntKind.bits]; omega
          have hw2 : IntKind.u8.wrap (48 + (r : Int)) = 48 + r := by simp [IntKind.wrap, IntKind.signed, IntKind.bits]; omega
          clear hn5
          have HS3 : Hid ((⟨#[48 + UInt8.ofNat r]⟩ ++ S : ByteArray).data.toList = revB (D ++ [r])) := by have := HS2.out; rw [show UInt8.ofNat (48 + r) = 48 + UInt8.ofNat r from UInt8.ofNat_add 48 r] at this; exact this
          go_wp2_with fail
          go_roundw
          case rel => exact ⟨q, D ++ [r], _, a4, c4, rfl, rfl, CN.re inferInstance rfl HQ1.out, HS3, HD2, inferInstance⟩
          case measure =>
            show rdVal _ _ < rdVal _ _
            rw [HM.out]
            exact Nat.lt_of_le_of_lt (Nat.le_of_eq (rdVal_cn inferInstance)) HLT.out
end Go.Proofs.YtnkfbkdcplbgoaaDoor
