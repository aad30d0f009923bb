/-
  Texts of this claim, joined: Read, RBe, Rdk, Rdq, RTq.
-/
import Derived.Test.YtnkfbkdcplbgoaaGreatDoorRA
import Derived.Test.YtnkfbkdcplbgoaaGreatDoorFmt
import Derived.Test.YtnkfbkdcplbgoaaGreatDoorRB
import Derived.Test.YtnkfbkdcplbgoaaGreatDoorNumQ
import Derived.Test.YtnkfbkdcplbgoaaGreatDoorSmall
/- The reference's reading and writing of decimal digits. printed by a small program (mkread.py). -/
namespace Go.Proofs.YtnkfbkdcplbgoaaGreatDoor
open Go.RowKit

instance CN.ten {W : World} {b : Nat} [h : Sz W b] : CN (W.alloc (.cells #[.int .u32 10] 81)) (.slice (some ⟨b, 0, none⟩) 1 1) 10 1 := ⟨by
  rw [← h.out]
  exact .lit (rd_lit rfl [10] (dig1 (by omega)) (by simp) #[.int .u32 10] rfl 1 rfl) (nf_one (by omega) (by omega)) (by simp)⟩
theorem CN.re {W : World} {v : Value} {n n' k k' : Nat} (h : CN W v n k) (e : n = n') (b : (nf n').length ≤ k') : CN W v n' k' := by
  subst e; exact ⟨h.out.1, b⟩
/-- What num.Read returns of digits. -/
def ReadRet (w : World) (m : Nat) (e : Ending) (w' : World) : Prop := ∃ a l c b, e = .returned (.tuple #[.slice a l c, .bool b]) ∧ CN w' (.slice a l c) m 4097 ∧ Below w.heap.size w w'
set_option maxRecDepth 100000 in
set_option maxHeartbeats 4000000 in
set_option synthInstance.maxSize 100000 in
set_option synthInstance.maxHeartbeats 1000000 in
theorem numReadC (s : ByteArray) (w : World) (hsz : s.size ≤ 4096) (hD : ∀ b ∈ s.data.toList, isD b = true) : Calls Tryz.prog 124 #[.string s] w (ReadRet w (bval s.data.toList)) := by
  have HLEN := Lib.hid (str_len s)
  have HD := Lib.hid hD
  have HB : Hid (∀ k, k ≤ s.size → (nf (bval (s.data.toList.take k))).length ≤ 4097) := fun k hk => by
    refine Nat.le_trans (nf_bval_len fun b hb => hD b (List.mem_of_mem_take hb)) ?_
    rw [List.length_take]; omega
  clear hD
  go_enter Tryz.func124, Tryz.ntmps124
  go_wp2_with fail
  go_loopw [4, 5] (fun av iv wr => ∃ (k : Nat) (a : Option Addr) (l c : Nat), k ≤ s.size ∧ iv = .int .i64 k ∧ av = .slice a l c ∧ CN wr (.slice a l c) (bval (s.data.toList.take k)) 4097 ∧ Kp w wr) (fun _ i _ => s.size - (intOf i).toNat)
  case atStart => exact ⟨0, none, 0, 0, Nat.zero_le _, rfl, rfl, CN.re CN.nil rfl (by rw [List.take_zero]; exact Nat.zero_le _), inferInstance⟩
  case round =>
    obtain ⟨k, a, l, c, hk, rfl, rfl, i1, i2⟩ := hrel
    by_cases hlt : k < s.size
    · have hix := ix_str s k hlt
      obtain ⟨d0, d1, d2⟩ := isD_bd (HD.out _ (byteAt_mem hlt))
      have HS : Hid (bval (s.data.toList.take (k + 1)) = 10 * bval (s.data.toList.take k) + bdig (byteAt s k)) := by show _ = _; rw [take_byte hlt]; exact bvalF_snoc 0 _ _
      have HB1 := Lib.hid (HB.out (k + 1) (by omega))
      have hbd : bdig (byteAt s k) = (byteAt s k).toNat - 48 := rfl
      generalize bval (s.data.toList.take k) = m at *
      generalize bdig (byteAt s k) = d at *
      generalize (byteAt s k).toNat = x at *
      obtain rfl : x = 48 + d := by omega
      have hwd : ((d : Int)).natAbs = d := Int.natAbs_natCast d
      have hw8 : IntKind.u8.wrap (48 + (d : Int) - 48) = d := by rw [show (48 : Int) + d - 48 = d by omega]; simp [IntKind.wrap, IntKind.signed, IntKind.bits]; omega
      have hw64 : IntKind.u64.wrap (d : Int) = d := by simp [IntKind.wrap, IntKind.signed, IntKind.bits]; omega
      clear hbd d1 d2
      go_wp2_with fail
      refine region_cls (by kernel_rfl) [] (fun hHeld => ?_)
      refine wpAnyH_take (i := 0) (v := ?z5) (by simp; rfl) (by kernel_rfl) (by kernel_rfl) (by kernel_rfl) (by exact fun _ _ _ h => h) (Or.inl ⟨by rfl, ?yz5⟩) hHeld ?_
      case yz5 => (intro wx hSw; have hSx := Ex1.mk hSw; go_simp; (try with_reducible rfl))
      try simp only [Act.put, List.setIfInBounds_toArray, List.set_cons_zero, List.set_cons_succ]
      refine wpAnyH_take (i := 3) (v := ?z6) (by simp; rfl) (by kernel_rfl) (by kernel_rfl) (by kernel_rfl) (by exact fun _ _ _ h => h) (Or.inl ⟨by rfl, ?yz6⟩) hHeld ?_
      case yz6 => (intro wx hSw; have hSx := Ex1.mk hSw; go_simp; (try with_reducible rfl))
      try simp only [Act.put, List.setIfInBounds_toArray, List.set_cons_zero, List.set_cons_succ]
      refine wpAnyH_take (i := 4) (v := ?z7) (by simp; rfl) (by kernel_rfl) (by kernel_rfl) (by kernel_rfl) (by exact fun _ _ _ h => h) (Or.inl ⟨by rfl, ?yz7⟩) hHeld ?_
      case yz7 => (intro wx hSw; have hSx := Ex1.mk hSw; go_simp; (try with_reducible rfl))
      try simp only [Act.put, List.setIfInBounds_toArray, List.set_cons_zero, List.set_cons_succ]
      refine wpAnyH_take (i := 5) (v := ?z8) (by simp; rfl) (by kernel_rfl) (by kernel_rfl) (by kernel_rfl) (by exact fun _ _ _ h => h) (Or.inl ⟨by rfl, ?yz8⟩) hHeld ?_
      case yz8 => (intro wx hSw; have hSx := Ex1.mk hSw; go_simp; (try with_reducible rfl))
      try simp only [Act.put, List.setIfInBounds_toArray, List.set_cons_zero, List.set_cons_succ]
      refine wpAnyH_take (i := 6) (v := ?z9) (by simp; rfl) (by kernel_rfl) (by kernel_rfl) (by kernel_rfl) (by exact fun _ _ _ h => h) (Or.inl ⟨by rfl, ?yz9⟩) hHeld ?_
      case yz9 => (intro wx hSw; have hSx := Ex1.mk hSw; go_simp; (try with_reducible rfl))
      try simp only [Act.put, List.setIfInBounds_toArray, List.set_cons_zero, List.set_cons_succ]
      refine wpAnyH_take (i := 7) (v := ?z10) (by simp; rfl) (by kernel_rfl) (by kernel_rfl) (by kernel_rfl) (by exact fun _ _ _ h => h) (Or.inl ⟨by rfl, ?yz10⟩) hHeld ?_
      case yz10 => (intro wx hSw; have hSx := Ex1.mk hSw; go_simp; (try with_reducible rfl))
      try simp only [Act.put, List.setIfInBounds_toArray, List.set_cons_zero, List.set_cons_succ]
      refine wpAnyH_ready (rs := [1]) (by kernel_rfl) (by simp) ?_
      refine AllReadyH.cons (by simp; rfl) (fun K hK => ?_) AllReadyH.nil
      go_simp
      refine hK.out _ _ inferInstance ?_
      clear hHeld hK K
      intro hHeld
      try simp only [Act.put, List.setIfInBounds_toArray, List.set_cons_zero, List.set_cons_succ]
      refine wpAnyH_ready (rs := [2]) (by kernel_rfl) (by simp) ?_
      refine AllReadyH.cons (by simp; rfl) (fun K hK => ?_) AllReadyH.nil
      go_simp
      (go_at_call 67; (with_reducible refine Calls.cN (numProductC (by omega)) ?_); intros)
      refine hK.out _ _ inferInstance ?_
      clear hHeld hK K
      intro hHeld
      try simp only [Act.put, List.setIfInBounds_toArray, List.set_cons_zero, List.set_cons_succ]
      refine wpAnyH_ready (rs := [8]) (by kernel_rfl) (by simp) ?_
      refine AllReadyH.cons (by simp; rfl) (fun K hK => ?_) AllReadyH.nil
      go_simp
      (go_at_call 119; (with_reducible refine Calls.cN (wordC (by omega)) ?_); intros)
      refine hK.out _ _ inferInstance ?_
      clear hHeld hK K
      intro hHeld
      try simp only [Act.put, List.setIfInBounds_toArray, List.set_cons_zero, List.set_cons_succ]
      refine wpAnyH_ready (rs := [9]) (by kernel_rfl) (by simp) ?_
      refine AllReadyH.cons (by simp; rfl) (fun K hK => ?_) AllReadyH.nil
      go_simp
      (go_at_call 110; (with_reducible refine Calls.cN (numSumC (by omega)) ?_); intros)
      refine hK.out _ _ inferInstance ?_
      clear hHeld hK K
      intro hHeld
      try simp only [Act.put, List.setIfInBounds_toArray, List.set_cons_zero, List.set_cons_succ]
      refine wpAnyH_take (i := 10) (v := ?z11) (by simp; rfl) (by kernel_rfl) (by kernel_rfl) (by kernel_rfl) (by exact fun _ _ _ h => h) (Or.inl ⟨by rfl, ?yz11⟩) hHeld ?_
      case yz11 => (intro wx hSw; have hSx := Ex1.mk hSw; go_simp; (try with_reducible rfl))
      try simp only [Act.put, List.setIfInBounds_toArray, List.set_cons_zero, List.set_cons_succ]
      refine wpAnyH_done (by kernel_rfl) ?_ _
      clear hHeld
      go_wp2_with fail
      go_roundw
      case rel => exact ⟨k + 1, _, _, _, by omega, by go_num, rfl, CN.re inferInstance (by rw [HS.out]; omega) HB1.out, inferInstance⟩
      case measure => simp [intOf]; omega
    · obtain rfl : k = s.size := by omega
      have e : s.data.toList.take s.size = s.data.toList := by rw [HLEN.out, List.take_length]
      rw [e] at i1
      go_wp2_with fail
      go_ret2
      exact ⟨_, _, _, _, rfl, i1, i2.out⟩
theorem Calls.kRead {P : Program} {f : FuncId} {args : Array Value} {w : World} {m : Nat} {K : Ending → World → Prop} (h : Calls P f args w (ReadRet w m))
    (hK : ∀ w' [Kp1 w w'] a l c b [CN w' (.slice a l c) m 4097], K (.returned (.tuple #[.slice a l c, .bool b])) w') : Calls P f args w K := by
  refine h.mono ?_
  rintro e w' ⟨a, l, c, b, rfl, hx, hb⟩
  exact @hK w' ⟨hb⟩ a l c b hx
/-- What ref01.ReadN returns. -/
def ReadNRet (w : World) (l : List UInt8) (e : Ending) (w' : World) : Prop := ∃ a n c, e = .returned (.tuple #[.slice a n c, .int .i64 ((pKind l : Nat) : Int)]) ∧ CN w' (.slice a n c) (if pKind l = 0 then bval l else 0) 4097 ∧ Below w.heap.size w w'
theorem Calls.kReadN {P : Program} {f : FuncId} {args : Array Value} {w : World} {l : List UInt8} {K : Ending → World → Prop} (h : Calls P f args w (ReadNRet w l))
    (hK : ∀ w' [Kp1 w w'] a n c [CN w' (.slice a n c) (if pKind l = 0 then bval l else 0) 4097], K (.returned (.tuple #[.slice a n c, .int .i64 ((pKind l : Nat) : Int)])) w') : Calls P f args w K := by
  refine h.mono ?_
  rintro e w' ⟨a, n, c, rfl, hx, hb⟩
  exact @hK w' ⟨hb⟩ a n c hx
set_option maxRecDepth 100000 in
set_option maxHeartbeats 4000000 in
set_option synthInstance.maxSize 100000 in
set_option synthInstance.maxHeartbeats 1000000 in
theorem readNC (s : ByteArray) (w : World) (hsz : s.size ≤ 1000000000) : Calls Tryz.prog 76 #[.string s] w (ReadNRet w s.data.toList) := by
  have HLEN := Lib.hid (str_len s)
  go_enter Tryz.func76, Tryz.ntmps76
  go_wp2_with fail
  go_loop [4] (fun i => ∃ k : Nat, k ≤ s.size ∧ i = .int .i64 k ∧ Hid (∀ b ∈ s.data.toList.take k, isD b = true)) (fun i => s.size - (intOf i).toNat)
  case atStart => exact ⟨0, Nat.zero_le _, rfl, fun b hb => by simp at hb⟩
  case round =>
    obtain ⟨k, hk, rfl, hD⟩ := hrel
    by_cases hlt : k < s.size
    · have hix := ix_str s k hlt
      by_cases hd : isD (byteAt s k) = true
      · obtain ⟨_, d1, d2⟩ := isD_bd hd
        have hD2 : Hid (∀ b ∈ s.data.toList.take (k + 1), isD b = true) := fun b hb => by
          rw [take_byte hlt] at hb
          rcases List.mem_append.1 hb with h | h
          · exact hD.out b h
          · rw [List.mem_singleton.1 h]; exact hd
        clear hd hD
        generalize byteAt s k = x at *
        go_wp2
        go_round
        case rel => exact ⟨k + 1, by omega, by go_num, hD2⟩
        case measure => simp [intOf]; omega
      · have hd : isD (byteAt s k) = false := by simpa using hd
        have HP : Hid (pKind s.data.toList = 1) := by show _ = _; unfold pKind; rw [if_pos (.inr ⟨_, byteAt_mem hlt, hd⟩)]
        have hbd := not_isD hd
        clear hd hD
        generalize byteAt s k = x at *
        rcases hbd with hbd | hbd
        all_goals
          go_wp2
          go_ret2
          exact ⟨_, _, _, by rw [HP.out]; rfl, CN.re CN.nil (by rw [HP.out]; rfl) (by rw [HP.out, if_neg (by decide), nf_zero]; decide), Below.refl _ _⟩
    · obtain rfl : k = s.size := by omega
      have HA : Hid (∀ b ∈ s.data.toList, isD b = true) := fun b hb => hD.out b (by rw [HLEN.out, List.take_length]; exact hb)
      clear hD
      by_cases he : s.data.toList = []
      · have hee : s.toList.isEmpty = true := by rw [Lib.toList_data, he]; rfl
        have HP : Hid (pKind s.data.toList = 1) := by show _ = _; unfold pKind; rw [if_pos (.inl he)]
        clear he
        go_wp2
        go_ret2
        exact ⟨_, _, _, by rw [HP.out]; rfl, CN.re CN.nil (by rw [HP.out]; rfl) (by rw [HP.out, if_neg (by decide), nf_zero]; decide), Below.refl _ _⟩
      · have hee : s.toList.isEmpty = false := by
          rw [Lib.toList_data]
          cases hx : s.data.toList with
          | nil => exact absurd hx he
          | cons => rfl
        have hp : s.data.toList = [] ∨ (∃ b ∈ s.data.toList, isD b = false) → False := fun h => by
          rcases h with h | ⟨b, hb, h⟩
          · exact he h
          · rw [HA.out b hb] at h; cases h
        clear he
        by_cases h4 : 4096 < s.size
        · have HP : Hid (pKind s.data.toList = 2) := by show _ = _; unfold pKind; rw [if_neg hp, if_pos (by rw [← HLEN.out]; exact h4)]
          clear hp
          go_wp2
          go_ret2
          exact ⟨_, _, _, by rw [HP.out]; rfl, CN.re CN.nil (by rw [HP.out]; rfl) (by rw [HP.out, if_neg (by decide), nf_zero]; decide), Below.refl _ _⟩
        · have HP : Hid (pKind s.data.toList = 0) := by show _ = _; unfold pKind; rw [if_neg hp, if_neg (by rw [← HLEN.out]; exact h4)]
          clear hp
          go_wp2_with (go_at_call 124; (with_reducible refine Calls.kRead (numReadC s _ (by omega) HA.out) ?_); intros)
          go_ret2
          exact ⟨_, _, _, by rw [HP.out]; rfl, CN.cast inferInstance (by rw [HP.out]; rfl) (Nat.le_refl _), (inferInstance : Kp w _).out⟩
theorem convert_one (W : World) (x : Int) (d : Nat) (hx : x = (d : Int)) : (convert 183 9 (.slice (some ⟨W.heap.size, 0, none⟩) 1 1)).run Tryz.prog (W.alloc (.cells #[.int .u8 x] 5)) = .ok (.string ⟨#[UInt8.ofNat d]⟩) (W.alloc (.cells #[.int .u8 x] 5)) := by
  subst hx
  have := run_convert_bytes_arg (P := Tryz.prog) (dst := 9) (W.alloc (.cells #[.int .u8 (d : Int)] 5)) 183 5 Tryz.underlying183 Tryz.underlying5 W.heap.size 0 1 1 [(d : Int)] rfl (fun i hi => by
    have h0 : i = 0 := by simpa using hi
    subst h0
    rw [World.cell?_alloc_at _ _ _ _ rfl]; rfl) Tryz.underlying9
  exact this
theorem nf_small {r : Nat} (h0 : r ≠ 0) (h : r < 10) : nf r = [r] := by
  rw [nf_pos h0, show r / 4294967296 = 0 by omega, nf_zero, show r % 4294967296 = r by omega]
theorem rdVal_cn {W : World} {v : Value} {n k : Nat} (h : CN W v n k) : rdVal W v = n := by rw [rdVal_eq h.out.1, val_nf]
theorem cn_cell0 {W : World} {a : Option Addr} {c k r : Nat} (h : CN W (.slice a 1 c) r k) (e : nf r = [r]) : ∃ b off, a = some ⟨b, off, none⟩ ∧ W.cell? ⟨b, off, none⟩ = some (.int .u32 (r : Int)) := by
  obtain ⟨a', cap, hv, _, _, _, hc⟩ := h.out.1
  rw [e] at hv hc
  injection hv with h1 _ _
  subst h1
  obtain ⟨b, off, rfl, hc2⟩ := hc (show 0 < 1 from Nat.zero_lt_one)
  exact ⟨b, off, rfl, hc2 0 (show 0 < 1 from Nat.zero_lt_one)⟩
theorem str_ext {s t : ByteArray} (h : s.data.toList = t.data.toList) : s = t := ByteArray.ext (Array.toList_inj.1 h)
/-- The digits so far as bytes. -/
def revB (D : List Nat) : List UInt8 := (D.map (fun d => UInt8.ofNat (48 + d))).reverse
set_option maxRecDepth 100000 in
set_option maxHeartbeats 4000000 in
set_option synthInstance.maxSize 100000 in
set_option synthInstance.maxHeartbeats 1000000 in
theorem numTextC {w : World} {a1 : Option Addr} {l1 c1 m k1 : Nat} [h1 : CN w (.slice a1 l1 c1) m k1] (b : k1 ≤ 100000 ∧ (dl m).length ≤ 100000000) :
    Calls Tryz.prog 90 #[.slice a1 l1 c1] w fun e w' => e = .returned (.string (decStr m)) ∧ Below w.heap.size w w' := by
  have hl := h1.out.len
  obtain ⟨b1, b2⟩ := b
  by_cases hm : m = 0
  · subst hm
    obtain rfl : l1 = 0 := hl
    clear h1
    go_enter Tryz.func90, Tryz.ntmps90
    go_wp2_with fail
    go_ret
    exact E.fin rfl
  · have hl0 : 0 < l1 := by rw [hl]; exact nf_len_pos hm
    have hl1 : l1 ≤ k1 := by rw [hl]; exact h1.out.2
    have HL := Lib.hid hl
    clear hl
    have hb0 : ((l1 : Int) == 0) = false := by rw [beq_eq_false_iff_ne]; omega
    go_enter Tryz.func90, Tryz.ntmps90
    go_wp2_with fail
    go_loopw [0, 3] (fun av sv wr => ∃ (c : Nat) (D : List Nat) (S : ByteArray) (a : Option Addr) (cap : Nat), av = .slice a (nf c).length cap ∧ sv = .string S ∧ CN wr (.slice a (nf c).length cap) c 100000 ∧ Hid (S.data.toList = revB D) ∧ Hid (D ++ dl c = dl m) ∧ Kp w wr) (fun a _ wr => rdVal wr a)
    case atStart => exact ⟨m, [], ⟨#[]⟩, a1, c1, by rw [← HL.out], rfl, by rw [← HL.out]; exact CN.re h1 rfl (by have := h1.out.2; omega), rfl, rfl, inferInstance⟩
    case round =>
      obtain ⟨c, D, S, a, cap, rfl, rfl, i1, hS, hD, hK⟩ := hrel
      have hdl := dl_le_len hD.out
      have hSs : S.size = D.length := by rw [str_len, hS.out]; simp [revB]
      by_cases hc0 : c = 0
      · subst hc0
        have HE : Hid (S = decStr m) := by
          have e1 : D = dl m := by have := hD.out; rw [dl_zero, List.append_nil] at this; exact this
          show S = _
          refine str_ext ?_
          rw [hS.out, e1]
          show _ = (((decBytes m).map UInt8.ofNat).toArray).toList
          rw [decBytes_pos hm, List.map_reverse, List.map_map]
          rfl
        have hl0 : (nf 0).length = 0 := rfl
        generalize (nf 0).length = n0 at *
        subst hl0
        clear hdl hSs
        go_wp2_with fail
        go_ret
        rw [← HE.out]
        exact ⟨rfl, hK.out⟩
      · have hp := nf_len_pos hc0
        have HM := Lib.hid (rdVal_cn i1)
        have HQ1 := Lib.hid (Nat.le_trans (nf_len_mono (Nat.div_le_self c 10)) i1.out.2)
        have HD2 : Hid ((D ++ [c % 10]) ++ dl (c / 10) = dl m) := by
          show _ = _
          rw [List.append_assoc, ← hD.out, dl_pos hc0]; rfl
        have HLT := Lib.hid (show c / 10 < c by omega)
        have hr10 : c % 10 < 10 := Nat.mod_lt _ (by omega)
        have hsz : (9223372036854775807 < 1 + S.size) ↔ False := ⟨fun h => by omega, False.elim⟩
        clear hdl hSs
        go_wp2_with fail
        with_reducible refine Calls.cQR (divideC (by omega) (by decide)) ?_
        intro w2 _ a4 l4 c4 a5 l5 c5 i4 i5
        obtain rfl : l4 = (nf (c / 10)).length := i4.out.len
        have hl5 := i5.out.len
        generalize c / 10 = q at *
        generalize c % 10 = r at *
        have HS2 : Hid ((⟨#[UInt8.ofNat (48 + r)]⟩ ++ S : ByteArray).data.toList = revB (D ++ [r])) := by
          show _ = _
          rw [ByteArray.data_append, Array.toList_append, hS.out]
          unfold revB
          rw [List.map_append, List.reverse_append]
          rfl
        by_cases hr : r = 0
        · subst hr
          obtain rfl : l5 = 0 := hl5
          have hcv := convert_one w2 48 48 rfl
          go_wp2_with fail
          go_roundw
          case rel => exact ⟨q, D ++ [0], _, a4, c4, rfl, rfl, CN.re inferInstance rfl HQ1.out, HS2, HD2, inferInstance⟩
          case measure =>
            show rdVal _ _ < rdVal _ _
            rw [HM.out]
            exact Nat.lt_of_le_of_lt (Nat.le_of_eq (rdVal_cn inferInstance)) HLT.out
        · have hn5 := nf_small hr hr10
          rw [hn5] at hl5
          obtain rfl : l5 = 1 := hl5
          have hcv := convert_one w2 (48 + r) (48 + r) (by omega)
          obtain ⟨b5, o5, rfl, hld⟩ := cn_cell0 i5 hn5
          have hw1 : IntKind.u8.wrap (r : Int) = r := by simp [IntKind.wrap, IntKind.signed, IntKind.bits]; omega
          have hw2 : IntKind.u8.wrap (48 + (r : Int)) = 48 + r := by simp [IntKind.wrap, IntKind.signed, IntKind.bits]; omega
          clear hn5
          have HS3 : Hid ((⟨#[48 + UInt8.ofNat r]⟩ ++ S : ByteArray).data.toList = revB (D ++ [r])) := by have := HS2.out; rw [show UInt8.ofNat (48 + r) = 48 + UInt8.ofNat r from UInt8.ofNat_add 48 r] at this; exact this
          go_wp2_with fail
          go_roundw
          case rel => exact ⟨q, D ++ [r], _, a4, c4, rfl, rfl, CN.re inferInstance rfl HQ1.out, HS3, HD2, inferInstance⟩
          case measure =>
            show rdVal _ _ < rdVal _ _
            rw [HM.out]
            exact Nat.lt_of_le_of_lt (Nat.le_of_eq (rdVal_cn inferInstance)) HLT.out
end Go.Proofs.YtnkfbkdcplbgoaaGreatDoor

/- Contract of rational.Parse. printed by a small program (mkrtxt.py). -/
namespace Go.Proofs.YtnkfbkdcplbgoaaGreatDoor
open Go.RowKit

set_option linter.unusedVariables false

theorem iparse1 {w w1 w2 : World} {s : ByteArray} {a0 a1 : Addr} (h0 : Snt w 0 a0 w1) (h1 : Snt w 2 a1 w2) (hsz : s.size ≤ 1000000000) (hk : pKind (iDig s.data.toList) = 1) :
    Calls Tryz.prog 78 #[.string s] w (ErrRet w (.agg #[.bool false, .slice none 0 0]) a0) := (iparse_any s hsz).mono fun e w' h => by
  rcases h with h | h | h
  · exact h.2
  · rw [hk] at h; exact absurd h.1 (by decide)
  · rw [hk] at h; exact absurd h.1 (by decide)
set_option maxRecDepth 100000 in
set_option maxHeartbeats 4000000 in
set_option synthInstance.maxSize 100000 in
set_option synthInstance.maxHeartbeats 1000000 in
theorem rparse_1n {w w1 w2 w3 : World} (s : ByteArray) {a0 a1 a2 : Addr} [h0 : Snt w 0 a0 w1] [h1 : Snt w 2 a1 w2] [h2 : Snt w 1 a2 w3] (hne : a1 ≠ a0) (hsz : s.size ≤ 1000000) (hh : hasSlash s.data.toList = false) (he : pKind (iDig (cutL s.data.toList)) = 1) :
    Calls Tryz.prog 22 #[.string s] w (ErrRet w (.agg #[.bool false, .slice none 0 0, .slice none 0 0]) a0) := by
  have i0 := h0.here
  have i1 := h1.here
  have i2 := h2.here
  clear h0 h1 h2
  have hlen := str_len s
  have hl1 := cutL_len s.data.toList
  have hl2 := cutR_len s.data.toList
  rw [← hlen] at hl1 hl2
  obtain ⟨pl, hpl⟩ : ∃ pl, cutL s.data.toList = pl := ⟨_, rfl⟩
  obtain ⟨ql, hql⟩ : ∃ ql, cutR s.data.toList = ql := ⟨_, rfl⟩
  have HC : Hid (hasSlash s.data.toList = false ∧ cutL s.data.toList = pl ∧ cutR s.data.toList = ql) := ⟨hh, hpl, hql⟩
  rw [hpl] at he hl1
  rw [hql] at hl2
  have HE := Lib.hid he
  clear hh he hlen hpl hql
  go_enter Tryz.func22, Tryz.ntmps22
  go_wp2_with fail
  with_reducible refine Calls.kCut (cutC s _ (by omega)) HC.out ?_
  intro W1 _ x y hx hy
  have hxs : x.size ≤ 1000000000 := by rw [str_len, hx.out]; omega
  have hys : y.size ≤ 1000000000 := by rw [str_len, hy.out]; omega
  have HE2 : Hid (pKind (iDig x.data.toList) = 1) := by show _; rw [hx.out]; exact HE.out
  go_wp2_with (first
    | (go_at_call 78; (with_reducible refine Calls.kErr (iparse1 inferInstance inferInstance hxs HE2.out) ?_); intros)
    | (go_at_call 18; (with_reducible refine Calls.cS (isNilC _) ?_))
    | (go_at_call 18; (with_reducible refine Calls.cS isSameC ?_))
    | (go_at_call 18; (with_reducible refine Calls.cS (isOtherC (g1 := 2) (g2 := 0) inferInstance inferInstance hne) ?_))
    | (go_at_call 80; (with_reducible refine Calls.cS (bitsC (by omega)) ?_); intros)
    | (go_at_call 81; (with_reducible refine Calls.cF (ofC (by omega)) ?_); intros)
    | (go_at_call 82; (with_reducible refine Calls.cA (rApiC (by omega)) ?_); intros))
  refine region_cls (by kernel_rfl) [w.heap.size] (fun hHeld => ?_)
  refine wpAnyH_take (i := 0) (v := ?z116) (by simp; rfl) (by kernel_rfl) (by kernel_rfl) (by kernel_rfl) (by exact fun _ _ _ h => h) (Or.inl ⟨by rfl, ?yz116⟩) hHeld ?_
  case yz116 => (intro wx hSw; have hSx := Ex1.mk hSw; go_simp; (try with_reducible rfl))
  try simp only [Act.put, List.setIfInBounds_toArray, List.set_cons_zero, List.set_cons_succ]
  refine wpAnyH_take (i := 1) (v := ?z117) (by simp; rfl) (by kernel_rfl) (by kernel_rfl) (by kernel_rfl) (by exact fun _ _ _ h => h) (Or.inl ⟨by rfl, ?yz117⟩) hHeld ?_
  case yz117 => (intro wx hSw; have hSx := Ex1.mk hSw; go_simp; (try with_reducible rfl))
  try simp only [Act.put, List.setIfInBounds_toArray, List.set_cons_zero, List.set_cons_succ]
  refine wpAnyH_take (i := 2) (v := ?z118) (by simp; rfl) (by kernel_rfl) (by kernel_rfl) (by kernel_rfl) (by exact fun _ _ _ h => h) (Or.inl ⟨by rfl, ?yz118⟩) hHeld ?_
  case yz118 => (intro wx hSw; have hSx := Ex1.mk hSw; go_simp; (try with_reducible rfl))
  try simp only [Act.put, List.setIfInBounds_toArray, List.set_cons_zero, List.set_cons_succ]
  refine wpAnyH_ready (rs := [3, 5]) (by kernel_rfl) (by simp) ?_
  refine AllReadyH.cons (by simp; rfl) (fun K hK => ?_) (AllReadyH.cons (by simp; rfl) (fun K hK => ?_) AllReadyH.nil)
  go_simp
  refine hK.out _ _ inferInstance ?_
  clear hHeld hK K
  intro hHeld
  try simp only [Act.put, List.setIfInBounds_toArray, List.set_cons_zero, List.set_cons_succ]
  refine wpAnyH_take (i := 4) (v := ?z119) (by simp; rfl) (by kernel_rfl) (by kernel_rfl) (by kernel_rfl) (by exact fun _ _ _ h => h) (Or.inl ⟨by rfl, ?yz119⟩) hHeld ?_
  case yz119 => (intro wx hSw; have hSx := Ex1.mk hSw; go_simp; (try with_reducible rfl))
  try simp only [Act.put, List.setIfInBounds_toArray, List.set_cons_zero, List.set_cons_succ]
  refine wpAnyH_ready (rs := [5]) (by kernel_rfl) (by simp) ?_
  refine AllReadyH.cons (by simp; rfl) (fun K hK => ?_) AllReadyH.nil
  go_simp
  refine hK.out _ _ inferInstance ?_
  clear hHeld hK K
  intro hHeld
  try simp only [Act.put, List.setIfInBounds_toArray, List.set_cons_zero, List.set_cons_succ]
  refine wpAnyH_take (i := 6) (v := ?z120) (by simp; rfl) (by kernel_rfl) (by kernel_rfl) (by kernel_rfl) (by exact fun _ _ _ h => h) (Or.inl ⟨by rfl, ?yz120⟩) hHeld ?_
  case yz120 => (intro wx hSw; have hSx := Ex1.mk hSw; go_simp; (try with_reducible rfl))
  try simp only [Act.put, List.setIfInBounds_toArray, List.set_cons_zero, List.set_cons_succ]
  refine wpAnyH_done (by kernel_rfl) ?_ _
  clear hHeld
  go_wp2
  refine ret_bt rfl Tryz.underlying29 rfl (by kernel_rfl) rfl rfl rfl ?_
  exact ⟨_, _, rfl, inferInstance, inferInstance, (inferInstance : Kp w _).out⟩
  go_simp
  refine hK.out _ _ inferInstance ?_
  clear hHeld hK K
  intro hHeld
  try simp only [Act.put, List.setIfInBounds_toArray, List.set_cons_zero, List.set_cons_succ]
  refine wpAnyH_ready (rs := [3]) (by kernel_rfl) (by simp) ?_
  refine AllReadyH.cons (by simp; rfl) (fun K hK => ?_) AllReadyH.nil
  go_simp
  refine hK.out _ _ inferInstance ?_
  clear hHeld hK K
  intro hHeld
  try simp only [Act.put, List.setIfInBounds_toArray, List.set_cons_zero, List.set_cons_succ]
  refine wpAnyH_take (i := 4) (v := ?z121) (by simp; rfl) (by kernel_rfl) (by kernel_rfl) (by kernel_rfl) (by exact fun _ _ _ h => h) (Or.inl ⟨by rfl, ?yz121⟩) hHeld ?_
  case yz121 => (intro wx hSw; have hSx := Ex1.mk hSw; go_simp; (try with_reducible rfl))
  try simp only [Act.put, List.setIfInBounds_toArray, List.set_cons_zero, List.set_cons_succ]
  refine wpAnyH_take (i := 6) (v := ?z122) (by simp; rfl) (by kernel_rfl) (by kernel_rfl) (by kernel_rfl) (by exact fun _ _ _ h => h) (Or.inl ⟨by rfl, ?yz122⟩) hHeld ?_
  case yz122 => (intro wx hSw; have hSx := Ex1.mk hSw; go_simp; (try with_reducible rfl))
  try simp only [Act.put, List.setIfInBounds_toArray, List.set_cons_zero, List.set_cons_succ]
  refine wpAnyH_done (by kernel_rfl) ?_ _
  clear hHeld
  go_wp2
  refine ret_bt rfl Tryz.underlying29 rfl (by kernel_rfl) rfl rfl rfl ?_
  exact ⟨_, _, rfl, inferInstance, inferInstance, (inferInstance : Kp w _).out⟩

set_option maxRecDepth 100000 in
set_option maxHeartbeats 4000000 in
set_option synthInstance.maxSize 100000 in
set_option synthInstance.maxHeartbeats 1000000 in
theorem rparse_0n {w w1 w2 w3 : World} (s : ByteArray) {a0 a1 a2 : Addr} [h0 : Snt w 0 a0 w1] [h1 : Snt w 2 a1 w2] [h2 : Snt w 1 a2 w3] (hne : a1 ≠ a0) (hsz : s.size ≤ 1000000) {zn : Int} (hh : hasSlash s.data.toList = false) (he : pKind (iDig (cutL s.data.toList)) = 0 ∧ iVal (cutL s.data.toList) = zn) :
    Calls Tryz.prog 22 #[.string s] w (RatRet w (mkRat zn 1) 5000) := by
  have i0 := h0.here
  have i1 := h1.here
  have i2 := h2.here
  clear h0 h1 h2
  have hlen := str_len s
  have hl1 := cutL_len s.data.toList
  have hl2 := cutR_len s.data.toList
  rw [← hlen] at hl1 hl2
  obtain ⟨pl, hpl⟩ : ∃ pl, cutL s.data.toList = pl := ⟨_, rfl⟩
  obtain ⟨ql, hql⟩ : ∃ ql, cutR s.data.toList = ql := ⟨_, rfl⟩
  have HC : Hid (hasSlash s.data.toList = false ∧ cutL s.data.toList = pl ∧ cutR s.data.toList = ql) := ⟨hh, hpl, hql⟩
  rw [hpl] at he hl1
  rw [hql] at hl2
  have HE := Lib.hid he
  clear hh he hlen hpl hql
  go_enter Tryz.func22, Tryz.ntmps22
  go_wp2_with fail
  with_reducible refine Calls.kCut (cutC s _ (by omega)) HC.out ?_
  intro W1 _ x y hx hy
  have hxs : x.size ≤ 1000000000 := by rw [str_len, hx.out]; omega
  have hys : y.size ≤ 1000000000 := by rw [str_len, hy.out]; omega
  have HE2 : Hid (pKind (iDig x.data.toList) = 0 ∧ iVal x.data.toList = zn) := by show _; rw [hx.out]; exact HE.out
  have hbt : (((nbits 1 : Nat) : Int) == 0) = false := by decide +kernel
  go_wp2_with (first
    | (go_at_call 78; (with_reducible refine Calls.kInt (iparse0 inferInstance inferInstance hxs HE2.out) ?_); intros)
    | (go_at_call 18; (with_reducible refine Calls.cS (isNilC _) ?_))
    | (go_at_call 18; (with_reducible refine Calls.cS isSameC ?_))
    | (go_at_call 18; (with_reducible refine Calls.cS (isOtherC (g1 := 2) (g2 := 0) inferInstance inferInstance hne) ?_))
    | (go_at_call 80; (with_reducible refine Calls.cS (bitsC (by omega)) ?_); intros)
    | (go_at_call 81; (with_reducible refine Calls.cF (ofC (by omega)) ?_); intros)
    | (go_at_call 82; (with_reducible refine Calls.cA (rApiC (by omega)) ?_); intros))
  refine ret_bt rfl Tryz.underlying29 rfl (by kernel_rfl) rfl rfl rfl ?_
  exact ⟨_, _, _, _, _, _, _, rfl, CA.cast inferInstance (by rfl) (by omega), (inferInstance : Kp w _).out⟩

set_option maxRecDepth 100000 in
set_option maxHeartbeats 4000000 in
set_option synthInstance.maxSize 100000 in
set_option synthInstance.maxHeartbeats 1000000 in
theorem rparse_11 {w w1 w2 w3 : World} (s : ByteArray) {a0 a1 a2 : Addr} [h0 : Snt w 0 a0 w1] [h1 : Snt w 2 a1 w2] [h2 : Snt w 1 a2 w3] (hne : a1 ≠ a0) (hsz : s.size ≤ 1000000) (hh : hasSlash s.data.toList = true) (he : pKind (iDig (cutL s.data.toList)) = 1) (hf : pKind (cutR s.data.toList) = 1) :
    Calls Tryz.prog 22 #[.string s] w (ErrRet w (.agg #[.bool false, .slice none 0 0, .slice none 0 0]) a0) := by
  have i0 := h0.here
  have i1 := h1.here
  have i2 := h2.here
  clear h0 h1 h2
  have hlen := str_len s
  have hl1 := cutL_len s.data.toList
  have hl2 := cutR_len s.data.toList
  rw [← hlen] at hl1 hl2
  obtain ⟨pl, hpl⟩ : ∃ pl, cutL s.data.toList = pl := ⟨_, rfl⟩
  obtain ⟨ql, hql⟩ : ∃ ql, cutR s.data.toList = ql := ⟨_, rfl⟩
  have HC : Hid (hasSlash s.data.toList = true ∧ cutL s.data.toList = pl ∧ cutR s.data.toList = ql) := ⟨hh, hpl, hql⟩
  rw [hpl] at he hl1
  rw [hql] at hf hl2
  have HE := Lib.hid he
  have HF := Lib.hid hf
  clear hh he hf hlen hpl hql
  go_enter Tryz.func22, Tryz.ntmps22
  go_wp2_with fail
  with_reducible refine Calls.kCut (cutC s _ (by omega)) HC.out ?_
  intro W1 _ x y hx hy
  have hxs : x.size ≤ 1000000000 := by rw [str_len, hx.out]; omega
  have hys : y.size ≤ 1000000000 := by rw [str_len, hy.out]; omega
  have HE2 : Hid (pKind (iDig x.data.toList) = 1) := by show _; rw [hx.out]; exact HE.out
  have HF2 : Hid (pKind y.data.toList = 1) := by show _; rw [hy.out]; exact HF.out
  go_wp2_with (first
    | (go_at_call 78; (with_reducible refine Calls.kErr (iparse1 inferInstance inferInstance hxs HE2.out) ?_); intros)
    | (go_at_call 79; (with_reducible refine Calls.kErr (parse1 inferInstance inferInstance hys HF2.out) ?_); intros)
    | (go_at_call 18; (with_reducible refine Calls.cS (isNilC _) ?_))
    | (go_at_call 18; (with_reducible refine Calls.cS isSameC ?_))
    | (go_at_call 18; (with_reducible refine Calls.cS (isOtherC (g1 := 2) (g2 := 0) inferInstance inferInstance hne) ?_))
    | (go_at_call 80; (with_reducible refine Calls.cS (bitsC (by omega)) ?_); intros)
    | (go_at_call 81; (with_reducible refine Calls.cF (ofC (by omega)) ?_); intros)
    | (go_at_call 82; (with_reducible refine Calls.cA (rApiC (by omega)) ?_); intros))
  refine region_cls (by kernel_rfl) [w.heap.size] (fun hHeld => ?_)
  refine wpAnyH_take (i := 0) (v := ?z130) (by simp; rfl) (by kernel_rfl) (by kernel_rfl) (by kernel_rfl) (by exact fun _ _ _ h => h) (Or.inl ⟨by rfl, ?yz130⟩) hHeld ?_
  case yz130 => (intro wx hSw; have hSx := Ex1.mk hSw; go_simp; (try with_reducible rfl))
  try simp only [Act.put, List.setIfInBounds_toArray, List.set_cons_zero, List.set_cons_succ]
  refine wpAnyH_take (i := 1) (v := ?z131) (by simp; rfl) (by kernel_rfl) (by kernel_rfl) (by kernel_rfl) (by exact fun _ _ _ h => h) (Or.inl ⟨by rfl, ?yz131⟩) hHeld ?_
  case yz131 => (intro wx hSw; have hSx := Ex1.mk hSw; go_simp; (try with_reducible rfl))
  try simp only [Act.put, List.setIfInBounds_toArray, List.set_cons_zero, List.set_cons_succ]
  refine wpAnyH_take (i := 2) (v := ?z132) (by simp; rfl) (by kernel_rfl) (by kernel_rfl) (by kernel_rfl) (by exact fun _ _ _ h => h) (Or.inl ⟨by rfl, ?yz132⟩) hHeld ?_
  case yz132 => (intro wx hSw; have hSx := Ex1.mk hSw; go_simp; (try with_reducible rfl))
  try simp only [Act.put, List.setIfInBounds_toArray, List.set_cons_zero, List.set_cons_succ]
  refine wpAnyH_ready (rs := [3, 5]) (by kernel_rfl) (by simp) ?_
  refine AllReadyH.cons (by simp; rfl) (fun K hK => ?_) (AllReadyH.cons (by simp; rfl) (fun K hK => ?_) AllReadyH.nil)
  go_simp
  refine hK.out _ _ inferInstance ?_
  clear hHeld hK K
  intro hHeld
  try simp only [Act.put, List.setIfInBounds_toArray, List.set_cons_zero, List.set_cons_succ]
  refine wpAnyH_take (i := 4) (v := ?z133) (by simp; rfl) (by kernel_rfl) (by kernel_rfl) (by kernel_rfl) (by exact fun _ _ _ h => h) (Or.inl ⟨by rfl, ?yz133⟩) hHeld ?_
  case yz133 => (intro wx hSw; have hSx := Ex1.mk hSw; go_simp; (try with_reducible rfl))
  try simp only [Act.put, List.setIfInBounds_toArray, List.set_cons_zero, List.set_cons_succ]
  refine wpAnyH_ready (rs := [5]) (by kernel_rfl) (by simp) ?_
  refine AllReadyH.cons (by simp; rfl) (fun K hK => ?_) AllReadyH.nil
  go_simp
  refine hK.out _ _ inferInstance ?_
  clear hHeld hK K
  intro hHeld
  try simp only [Act.put, List.setIfInBounds_toArray, List.set_cons_zero, List.set_cons_succ]
  refine wpAnyH_take (i := 6) (v := ?z134) (by simp; rfl) (by kernel_rfl) (by kernel_rfl) (by kernel_rfl) (by exact fun _ _ _ h => h) (Or.inl ⟨by rfl, ?yz134⟩) hHeld ?_
  case yz134 => (intro wx hSw; have hSx := Ex1.mk hSw; go_simp; (try with_reducible rfl))
  try simp only [Act.put, List.setIfInBounds_toArray, List.set_cons_zero, List.set_cons_succ]
  refine wpAnyH_done (by kernel_rfl) ?_ _
  clear hHeld
  go_wp2
  refine ret_bt rfl Tryz.underlying29 rfl (by kernel_rfl) rfl rfl rfl ?_
  exact ⟨_, _, rfl, inferInstance, inferInstance, (inferInstance : Kp w _).out⟩
  go_simp
  refine hK.out _ _ inferInstance ?_
  clear hHeld hK K
  intro hHeld
  try simp only [Act.put, List.setIfInBounds_toArray, List.set_cons_zero, List.set_cons_succ]
  refine wpAnyH_ready (rs := [3]) (by kernel_rfl) (by simp) ?_
  refine AllReadyH.cons (by simp; rfl) (fun K hK => ?_) AllReadyH.nil
  go_simp
  refine hK.out _ _ inferInstance ?_
  clear hHeld hK K
  intro hHeld
  try simp only [Act.put, List.setIfInBounds_toArray, List.set_cons_zero, List.set_cons_succ]
  refine wpAnyH_take (i := 4) (v := ?z135) (by simp; rfl) (by kernel_rfl) (by kernel_rfl) (by kernel_rfl) (by exact fun _ _ _ h => h) (Or.inl ⟨by rfl, ?yz135⟩) hHeld ?_
  case yz135 => (intro wx hSw; have hSx := Ex1.mk hSw; go_simp; (try with_reducible rfl))
  try simp only [Act.put, List.setIfInBounds_toArray, List.set_cons_zero, List.set_cons_succ]
  refine wpAnyH_take (i := 6) (v := ?z136) (by simp; rfl) (by kernel_rfl) (by kernel_rfl) (by kernel_rfl) (by exact fun _ _ _ h => h) (Or.inl ⟨by rfl, ?yz136⟩) hHeld ?_
  case yz136 => (intro wx hSw; have hSx := Ex1.mk hSw; go_simp; (try with_reducible rfl))
  try simp only [Act.put, List.setIfInBounds_toArray, List.set_cons_zero, List.set_cons_succ]
  refine wpAnyH_done (by kernel_rfl) ?_ _
  clear hHeld
  go_wp2
  refine ret_bt rfl Tryz.underlying29 rfl (by kernel_rfl) rfl rfl rfl ?_
  exact ⟨_, _, rfl, inferInstance, inferInstance, (inferInstance : Kp w _).out⟩

set_option maxRecDepth 100000 in
set_option maxHeartbeats 4000000 in
set_option synthInstance.maxSize 100000 in
set_option synthInstance.maxHeartbeats 1000000 in
theorem rparse_10 {w w1 w2 w3 : World} (s : ByteArray) {a0 a1 a2 : Addr} [h0 : Snt w 0 a0 w1] [h1 : Snt w 2 a1 w2] [h2 : Snt w 1 a2 w3] (hne : a1 ≠ a0) (hsz : s.size ≤ 1000000) {dn : Nat} (hh : hasSlash s.data.toList = true) (he : pKind (iDig (cutL s.data.toList)) = 1) (hf : pKind (cutR s.data.toList) = 0 ∧ bval (cutR s.data.toList) = dn) :
    Calls Tryz.prog 22 #[.string s] w (ErrRet w (.agg #[.bool false, .slice none 0 0, .slice none 0 0]) a0) := by
  have i0 := h0.here
  have i1 := h1.here
  have i2 := h2.here
  clear h0 h1 h2
  have hlen := str_len s
  have hl1 := cutL_len s.data.toList
  have hl2 := cutR_len s.data.toList
  rw [← hlen] at hl1 hl2
  obtain ⟨pl, hpl⟩ : ∃ pl, cutL s.data.toList = pl := ⟨_, rfl⟩
  obtain ⟨ql, hql⟩ : ∃ ql, cutR s.data.toList = ql := ⟨_, rfl⟩
  have HC : Hid (hasSlash s.data.toList = true ∧ cutL s.data.toList = pl ∧ cutR s.data.toList = ql) := ⟨hh, hpl, hql⟩
  rw [hpl] at he hl1
  rw [hql] at hf hl2
  have HE := Lib.hid he
  have HF := Lib.hid hf
  clear hh he hf hlen hpl hql
  go_enter Tryz.func22, Tryz.ntmps22
  go_wp2_with fail
  with_reducible refine Calls.kCut (cutC s _ (by omega)) HC.out ?_
  intro W1 _ x y hx hy
  have hxs : x.size ≤ 1000000000 := by rw [str_len, hx.out]; omega
  have hys : y.size ≤ 1000000000 := by rw [str_len, hy.out]; omega
  have HE2 : Hid (pKind (iDig x.data.toList) = 1) := by show _; rw [hx.out]; exact HE.out
  have HF2 : Hid (pKind y.data.toList = 0 ∧ bval y.data.toList = dn) := by show _; rw [hy.out]; exact HF.out
  go_wp2_with (first
    | (go_at_call 78; (with_reducible refine Calls.kErr (iparse1 inferInstance inferInstance hxs HE2.out) ?_); intros)
    | (go_at_call 79; (with_reducible refine Calls.kNum (parse0 inferInstance inferInstance hys HF2.out) ?_); intros)
    | (go_at_call 18; (with_reducible refine Calls.cS (isNilC _) ?_))
    | (go_at_call 18; (with_reducible refine Calls.cS isSameC ?_))
    | (go_at_call 18; (with_reducible refine Calls.cS (isOtherC (g1 := 2) (g2 := 0) inferInstance inferInstance hne) ?_))
    | (go_at_call 80; (with_reducible refine Calls.cS (bitsC (by omega)) ?_); intros)
    | (go_at_call 81; (with_reducible refine Calls.cF (ofC (by omega)) ?_); intros)
    | (go_at_call 82; (with_reducible refine Calls.cA (rApiC (by omega)) ?_); intros))
  refine region_cls (by kernel_rfl) [w.heap.size] (fun hHeld => ?_)
  refine wpAnyH_take (i := 0) (v := ?z144) (by simp; rfl) (by kernel_rfl) (by kernel_rfl) (by kernel_rfl) (by exact fun _ _ _ h => h) (Or.inl ⟨by rfl, ?yz144⟩) hHeld ?_
  case yz144 => (intro wx hSw; have hSx := Ex1.mk hSw; go_simp; (try with_reducible rfl))
  try simp only [Act.put, List.setIfInBounds_toArray, List.set_cons_zero, List.set_cons_succ]
  refine wpAnyH_take (i := 1) (v := ?z145) (by simp; rfl) (by kernel_rfl) (by kernel_rfl) (by kernel_rfl) (by exact fun _ _ _ h => h) (Or.inl ⟨by rfl, ?yz145⟩) hHeld ?_
  case yz145 => (intro wx hSw; have hSx := Ex1.mk hSw; go_simp; (try with_reducible rfl))
  try simp only [Act.put, List.setIfInBounds_toArray, List.set_cons_zero, List.set_cons_succ]
  refine wpAnyH_take (i := 2) (v := ?z146) (by simp; rfl) (by kernel_rfl) (by kernel_rfl) (by kernel_rfl) (by exact fun _ _ _ h => h) (Or.inl ⟨by rfl, ?yz146⟩) hHeld ?_
  case yz146 => (intro wx hSw; have hSx := Ex1.mk hSw; go_simp; (try with_reducible rfl))
  try simp only [Act.put, List.setIfInBounds_toArray, List.set_cons_zero, List.set_cons_succ]
  refine wpAnyH_ready (rs := [3, 5]) (by kernel_rfl) (by simp) ?_
  refine AllReadyH.cons (by simp; rfl) (fun K hK => ?_) (AllReadyH.cons (by simp; rfl) (fun K hK => ?_) AllReadyH.nil)
  go_simp
  refine hK.out _ _ inferInstance ?_
  clear hHeld hK K
  intro hHeld
  try simp only [Act.put, List.setIfInBounds_toArray, List.set_cons_zero, List.set_cons_succ]
  refine wpAnyH_take (i := 4) (v := ?z147) (by simp; rfl) (by kernel_rfl) (by kernel_rfl) (by kernel_rfl) (by exact fun _ _ _ h => h) (Or.inl ⟨by rfl, ?yz147⟩) hHeld ?_
  case yz147 => (intro wx hSw; have hSx := Ex1.mk hSw; go_simp; (try with_reducible rfl))
  try simp only [Act.put, List.setIfInBounds_toArray, List.set_cons_zero, List.set_cons_succ]
  refine wpAnyH_ready (rs := [5]) (by kernel_rfl) (by simp) ?_
  refine AllReadyH.cons (by simp; rfl) (fun K hK => ?_) AllReadyH.nil
  go_simp
  refine hK.out _ _ inferInstance ?_
  clear hHeld hK K
  intro hHeld
  try simp only [Act.put, List.setIfInBounds_toArray, List.set_cons_zero, List.set_cons_succ]
  refine wpAnyH_take (i := 6) (v := ?z148) (by simp; rfl) (by kernel_rfl) (by kernel_rfl) (by kernel_rfl) (by exact fun _ _ _ h => h) (Or.inl ⟨by rfl, ?yz148⟩) hHeld ?_
  case yz148 => (intro wx hSw; have hSx := Ex1.mk hSw; go_simp; (try with_reducible rfl))
  try simp only [Act.put, List.setIfInBounds_toArray, List.set_cons_zero, List.set_cons_succ]
  refine wpAnyH_done (by kernel_rfl) ?_ _
  clear hHeld
  go_wp2
  refine ret_bt rfl Tryz.underlying29 rfl (by kernel_rfl) rfl rfl rfl ?_
  exact ⟨_, _, rfl, inferInstance, inferInstance, (inferInstance : Kp w _).out⟩
  go_simp
  refine hK.out _ _ inferInstance ?_
  clear hHeld hK K
  intro hHeld
  try simp only [Act.put, List.setIfInBounds_toArray, List.set_cons_zero, List.set_cons_succ]
  refine wpAnyH_ready (rs := [3]) (by kernel_rfl) (by simp) ?_
  refine AllReadyH.cons (by simp; rfl) (fun K hK => ?_) AllReadyH.nil
  go_simp
  refine hK.out _ _ inferInstance ?_
  clear hHeld hK K
  intro hHeld
  try simp only [Act.put, List.setIfInBounds_toArray, List.set_cons_zero, List.set_cons_succ]
  refine wpAnyH_take (i := 4) (v := ?z149) (by simp; rfl) (by kernel_rfl) (by kernel_rfl) (by kernel_rfl) (by exact fun _ _ _ h => h) (Or.inl ⟨by rfl, ?yz149⟩) hHeld ?_
  case yz149 => (intro wx hSw; have hSx := Ex1.mk hSw; go_simp; (try with_reducible rfl))
  try simp only [Act.put, List.setIfInBounds_toArray, List.set_cons_zero, List.set_cons_succ]
  refine wpAnyH_take (i := 6) (v := ?z150) (by simp; rfl) (by kernel_rfl) (by kernel_rfl) (by kernel_rfl) (by exact fun _ _ _ h => h) (Or.inl ⟨by rfl, ?yz150⟩) hHeld ?_
  case yz150 => (intro wx hSw; have hSx := Ex1.mk hSw; go_simp; (try with_reducible rfl))
  try simp only [Act.put, List.setIfInBounds_toArray, List.set_cons_zero, List.set_cons_succ]
  refine wpAnyH_done (by kernel_rfl) ?_ _
  clear hHeld
  go_wp2
  refine ret_bt rfl Tryz.underlying29 rfl (by kernel_rfl) rfl rfl rfl ?_
  exact ⟨_, _, rfl, inferInstance, inferInstance, (inferInstance : Kp w _).out⟩

set_option maxRecDepth 100000 in
set_option maxHeartbeats 4000000 in
set_option synthInstance.maxSize 100000 in
set_option synthInstance.maxHeartbeats 1000000 in
theorem rparse_01 {w w1 w2 w3 : World} (s : ByteArray) {a0 a1 a2 : Addr} [h0 : Snt w 0 a0 w1] [h1 : Snt w 2 a1 w2] [h2 : Snt w 1 a2 w3] (hne : a1 ≠ a0) (hsz : s.size ≤ 1000000) {zn : Int} (hh : hasSlash s.data.toList = true) (he : pKind (iDig (cutL s.data.toList)) = 0 ∧ iVal (cutL s.data.toList) = zn) (hf : pKind (cutR s.data.toList) = 1) :
    Calls Tryz.prog 22 #[.string s] w (ErrRet w (.agg #[.bool false, .slice none 0 0, .slice none 0 0]) a0) := by
  have i0 := h0.here
  have i1 := h1.here
  have i2 := h2.here
  clear h0 h1 h2
  have hlen := str_len s
  have hl1 := cutL_len s.data.toList
  have hl2 := cutR_len s.data.toList
  rw [← hlen] at hl1 hl2
  obtain ⟨pl, hpl⟩ : ∃ pl, cutL s.data.toList = pl := ⟨_, rfl⟩
  obtain ⟨ql, hql⟩ : ∃ ql, cutR s.data.toList = ql := ⟨_, rfl⟩
  have HC : Hid (hasSlash s.data.toList = true ∧ cutL s.data.toList = pl ∧ cutR s.data.toList = ql) := ⟨hh, hpl, hql⟩
  rw [hpl] at he hl1
  rw [hql] at hf hl2
  have HE := Lib.hid he
  have HF := Lib.hid hf
  clear hh he hf hlen hpl hql
  go_enter Tryz.func22, Tryz.ntmps22
  go_wp2_with fail
  with_reducible refine Calls.kCut (cutC s _ (by omega)) HC.out ?_
  intro W1 _ x y hx hy
  have hxs : x.size ≤ 1000000000 := by rw [str_len, hx.out]; omega
  have hys : y.size ≤ 1000000000 := by rw [str_len, hy.out]; omega
  have HE2 : Hid (pKind (iDig x.data.toList) = 0 ∧ iVal x.data.toList = zn) := by show _; rw [hx.out]; exact HE.out
  have HF2 : Hid (pKind y.data.toList = 1) := by show _; rw [hy.out]; exact HF.out
  go_wp2_with (first
    | (go_at_call 78; (with_reducible refine Calls.kInt (iparse0 inferInstance inferInstance hxs HE2.out) ?_); intros)
    | (go_at_call 79; (with_reducible refine Calls.kErr (parse1 inferInstance inferInstance hys HF2.out) ?_); intros)
    | (go_at_call 18; (with_reducible refine Calls.cS (isNilC _) ?_))
    | (go_at_call 18; (with_reducible refine Calls.cS isSameC ?_))
    | (go_at_call 18; (with_reducible refine Calls.cS (isOtherC (g1 := 2) (g2 := 0) inferInstance inferInstance hne) ?_))
    | (go_at_call 80; (with_reducible refine Calls.cS (bitsC (by omega)) ?_); intros)
    | (go_at_call 81; (with_reducible refine Calls.cF (ofC (by omega)) ?_); intros)
    | (go_at_call 82; (with_reducible refine Calls.cA (rApiC (by omega)) ?_); intros))
  refine region_cls (by kernel_rfl) [w.heap.size] (fun hHeld => ?_)
  refine wpAnyH_take (i := 0) (v := ?z172) (by simp; rfl) (by kernel_rfl) (by kernel_rfl) (by kernel_rfl) (by exact fun _ _ _ h => h) (Or.inl ⟨by rfl, ?yz172⟩) hHeld ?_
  case yz172 => (intro wx hSw; have hSx := Ex1.mk hSw; go_simp; (try with_reducible rfl))
  try simp only [Act.put, List.setIfInBounds_toArray, List.set_cons_zero, List.set_cons_succ]
  refine wpAnyH_take (i := 1) (v := ?z173) (by simp; rfl) (by kernel_rfl) (by kernel_rfl) (by kernel_rfl) (by exact fun _ _ _ h => h) (Or.inl ⟨by rfl, ?yz173⟩) hHeld ?_
  case yz173 => (intro wx hSw; have hSx := Ex1.mk hSw; go_simp; (try with_reducible rfl))
  try simp only [Act.put, List.setIfInBounds_toArray, List.set_cons_zero, List.set_cons_succ]
  refine wpAnyH_take (i := 2) (v := ?z174) (by simp; rfl) (by kernel_rfl) (by kernel_rfl) (by kernel_rfl) (by exact fun _ _ _ h => h) (Or.inl ⟨by rfl, ?yz174⟩) hHeld ?_
  case yz174 => (intro wx hSw; have hSx := Ex1.mk hSw; go_simp; (try with_reducible rfl))
  try simp only [Act.put, List.setIfInBounds_toArray, List.set_cons_zero, List.set_cons_succ]
  refine wpAnyH_ready (rs := [3, 5]) (by kernel_rfl) (by simp) ?_
  refine AllReadyH.cons (by simp; rfl) (fun K hK => ?_) (AllReadyH.cons (by simp; rfl) (fun K hK => ?_) AllReadyH.nil)
  go_simp
  refine hK.out _ _ inferInstance ?_
  clear hHeld hK K
  intro hHeld
  try simp only [Act.put, List.setIfInBounds_toArray, List.set_cons_zero, List.set_cons_succ]
  refine wpAnyH_take (i := 4) (v := ?z175) (by simp; rfl) (by kernel_rfl) (by kernel_rfl) (by kernel_rfl) (by exact fun _ _ _ h => h) (Or.inl ⟨by rfl, ?yz175⟩) hHeld ?_
  case yz175 => (intro wx hSw; have hSx := Ex1.mk hSw; go_simp; (try with_reducible rfl))
  try simp only [Act.put, List.setIfInBounds_toArray, List.set_cons_zero, List.set_cons_succ]
  refine wpAnyH_ready (rs := [5]) (by kernel_rfl) (by simp) ?_
  refine AllReadyH.cons (by simp; rfl) (fun K hK => ?_) AllReadyH.nil
  go_simp
  refine hK.out _ _ inferInstance ?_
  clear hHeld hK K
  intro hHeld
  try simp only [Act.put, List.setIfInBounds_toArray, List.set_cons_zero, List.set_cons_succ]
  refine wpAnyH_take (i := 6) (v := ?z176) (by simp; rfl) (by kernel_rfl) (by kernel_rfl) (by kernel_rfl) (by exact fun _ _ _ h => h) (Or.inl ⟨by rfl, ?yz176⟩) hHeld ?_
  case yz176 => (intro wx hSw; have hSx := Ex1.mk hSw; go_simp; (try with_reducible rfl))
  try simp only [Act.put, List.setIfInBounds_toArray, List.set_cons_zero, List.set_cons_succ]
  refine wpAnyH_done (by kernel_rfl) ?_ _
  clear hHeld
  go_wp2
  refine ret_bt rfl Tryz.underlying29 rfl (by kernel_rfl) rfl rfl rfl ?_
  exact ⟨_, _, rfl, inferInstance, inferInstance, (inferInstance : Kp w _).out⟩
  go_simp
  refine hK.out _ _ inferInstance ?_
  clear hHeld hK K
  intro hHeld
  try simp only [Act.put, List.setIfInBounds_toArray, List.set_cons_zero, List.set_cons_succ]
  refine wpAnyH_ready (rs := [3]) (by kernel_rfl) (by simp) ?_
  refine AllReadyH.cons (by simp; rfl) (fun K hK => ?_) AllReadyH.nil
  go_simp
  refine hK.out _ _ inferInstance ?_
  clear hHeld hK K
  intro hHeld
  try simp only [Act.put, List.setIfInBounds_toArray, List.set_cons_zero, List.set_cons_succ]
  refine wpAnyH_take (i := 4) (v := ?z177) (by simp; rfl) (by kernel_rfl) (by kernel_rfl) (by kernel_rfl) (by exact fun _ _ _ h => h) (Or.inl ⟨by rfl, ?yz177⟩) hHeld ?_
  case yz177 => (intro wx hSw; have hSx := Ex1.mk hSw; go_simp; (try with_reducible rfl))
  try simp only [Act.put, List.setIfInBounds_toArray, List.set_cons_zero, List.set_cons_succ]
  refine wpAnyH_take (i := 6) (v := ?z178) (by simp; rfl) (by kernel_rfl) (by kernel_rfl) (by kernel_rfl) (by exact fun _ _ _ h => h) (Or.inl ⟨by rfl, ?yz178⟩) hHeld ?_
  case yz178 => (intro wx hSw; have hSx := Ex1.mk hSw; go_simp; (try with_reducible rfl))
  try simp only [Act.put, List.setIfInBounds_toArray, List.set_cons_zero, List.set_cons_succ]
  refine wpAnyH_done (by kernel_rfl) ?_ _
  clear hHeld
  go_wp2
  refine ret_bt rfl Tryz.underlying29 rfl (by kernel_rfl) rfl rfl rfl ?_
  exact ⟨_, _, rfl, inferInstance, inferInstance, (inferInstance : Kp w _).out⟩

end Go.Proofs.YtnkfbkdcplbgoaaGreatDoor

/- The reference's texts: num.Format, ref01.ReadI, ref01.ReadQ. printed by a small program (mkrdk.py). -/
namespace Go.Proofs.YtnkfbkdcplbgoaaGreatDoor
open Go.RowKit

theorem pk2 {l : List UInt8} (h : pKind l = 2) : 4096 < l.length := by
  unfold pKind at h
  split at h
  · exact absurd h (by decide)
  · split at h
    · assumption
    · exact absurd h (by decide)
/-- What ref01.ReadN returns, its kind known. -/
def ReadKRet (w : World) (v k : Nat) (e : Ending) (w' : World) : Prop := ∃ a n c, e = .returned (.tuple #[.slice a n c, .int .i64 ((k : Nat) : Int)]) ∧ CN w' (.slice a n c) v 4097 ∧ Below w.heap.size w w'
theorem readKC {s : ByteArray} {w : World} (hsz : s.size ≤ 1000000000) {v k : Nat} (hk : pKind s.data.toList = k) (hv : (if k = 0 then bval s.data.toList else 0) = v) : Calls Tryz.prog 76 #[.string s] w (ReadKRet w v k) := by
  subst hk; subst hv
  exact readNC s w hsz
theorem Calls.kReadK {P : Program} {f : FuncId} {args : Array Value} {w : World} {v k : Nat} {K : Ending → World → Prop} (h : Calls P f args w (ReadKRet w v k))
    (hK : ∀ w' [Kp1 w w'] a n c [CN w' (.slice a n c) v 4097], K (.returned (.tuple #[.slice a n c, .int .i64 ((k : Nat) : Int)])) w') : Calls P f args w K := by
  refine h.mono ?_
  rintro e w' ⟨a, n, c, rfl, hx, hb⟩
  exact @hK w' ⟨hb⟩ a n c hx
theorem dl_val {l : List Nat} (h : Dig l) (hl : l.length ≤ 20) : (dl (val l)).length ≤ 200 := by
  refine dl_len (Nat.lt_of_lt_of_le (val_lt l h) (Nat.le_trans (Nat.pow_le_pow_right (by omega) hl) ?_))
  decide +kernel
theorem dec_kind {n : Nat} (h : (dl n).length ≤ 4000) : pKind (decStr n).data.toList = 0 ∧ bval (decStr n).data.toList = n := by
  rw [decStr_data]
  refine ⟨?_, bval_decL n⟩
  unfold pKind
  have h1 := decL_len n
  rw [if_neg, if_neg]
  · omega
  · rintro (h2 | ⟨b, hb, h2⟩)
    · exact decL_ne n h2
    · rw [decL_isD n b hb] at h2; cases h2
set_option maxRecDepth 100000 in
set_option maxHeartbeats 4000000 in
set_option synthInstance.maxSize 100000 in
set_option synthInstance.maxHeartbeats 1000000 in
theorem numFormatZ {w : World} {g1 : Bool} {a1 : Option Addr} {l1 c1 : Nat} {x : Int} {k1 : Nat} [h1 : CZ w (.agg #[.bool g1, .slice a1 l1 c1]) x k1] (b : k1 ≤ 100000 ∧ (dl x.natAbs).length ≤ 1000000) :
    Calls Tryz.prog 28 #[.agg #[.bool g1, .slice a1 l1 c1, .slice none 0 0]] w fun e w' => e = .returned (.string (decI x)) ∧ Below w.heap.size w w' := by
  have i2 : CN w (.slice a1 l1 c1) x.natAbs k1 := ⟨(zz_of h1).2⟩
  have hg := (zz_of h1).1
  have hsz0 := decStr_size x.natAbs
  have hsz : (9223372036854775807 < 1 + (decStr x.natAbs).size) ↔ False := ⟨fun h => by omega, False.elim⟩
  clear hsz0 h1
  by_cases hx : x < 0
  · have HD : Hid (decI x = ⟨#[45]⟩ ++ decStr x.natAbs) := if_pos hx
    obtain rfl : g1 = true := by rw [hg]; simp [hx]
    clear hx hg
    go_enter Tryz.func28, Tryz.ntmps28
    go_wp2_with (go_at_call 90; (with_reducible refine Calls.cE (numTextC (by omega)) ?_); intros)
    go_ret
    exact E.fin (by rw [HD.out]; rfl)
  · have HD : Hid (decI x = decStr x.natAbs) := if_neg hx
    obtain rfl : g1 = false := by rw [hg]; simp [hx]
    clear hx hg
    go_enter Tryz.func28, Tryz.ntmps28
    go_wp2_with (go_at_call 90; (with_reducible refine Calls.cE (numTextC (by omega)) ?_); intros)
    go_ret
    exact E.fin (by rw [HD.out]; rfl)
/-- What ref01.ReadI returns, its kind known. -/
def ReadIRet (w : World) (z : Int) (k : Nat) (e : Ending) (w' : World) : Prop := ∃ g a n c, e = .returned (.tuple #[.agg #[.bool g, .slice a n c], .int .i64 ((k : Nat) : Int)]) ∧ CZ w' (.agg #[.bool g, .slice a n c]) z 4097 ∧ Below w.heap.size w w'
theorem Calls.kReadI {P : Program} {f : FuncId} {args : Array Value} {w : World} {z : Int} {k : Nat} {K : Ending → World → Prop} (h : Calls P f args w (ReadIRet w z k))
    (hK : ∀ w' [Kp1 w w'] g a n c [CZ w' (.agg #[.bool g, .slice a n c]) z 4097], K (.returned (.tuple #[.agg #[.bool g, .slice a n c], .int .i64 ((k : Nat) : Int)])) w') : Calls P f args w K := by
  refine h.mono ?_
  rintro e w' ⟨g, a, n, c, rfl, hx, hb⟩
  exact @hK w' ⟨hb⟩ g a n c hx
set_option maxRecDepth 100000 in
set_option maxHeartbeats 4000000 in
set_option synthInstance.maxSize 100000 in
set_option synthInstance.maxHeartbeats 1000000 in
theorem readIC {w : World} {s : ByteArray} (hsz : s.size ≤ 1000000000) {k : Nat} {z : Int} (hk : pKind (iDig s.data.toList) = k) (hz : sgn (iNeg s.data.toList) (if k = 0 then bval (iDig s.data.toList) else 0) = z) :
    Calls Tryz.prog 74 #[.string s] w (ReadIRet w z k) := by
  have hlen := str_len s
  by_cases hn : iNeg s.data.toList = true
  · rw [hn] at hz
    obtain ⟨t, ht⟩ : ∃ t, s.data.toList = 45 :: t := by
      cases hx : s.data.toList with
      | nil => rw [hx] at hn; cases hn
      | cons b t =>
        rw [hx] at hn
        exact ⟨t, by rw [of_decide_eq_true hn]⟩
    have hs1 : 1 ≤ s.size := by rw [hlen, ht]; simp
    have hs0 : 0 < s.size := hs1
    have e45 : (((s[0]'hs0).toNat : Int) == 45) = true := by
      rw [byteAt_eq]; unfold byteAt; rw [ht]; rfl
    have hee : s.toList.isEmpty = false := by rw [Lib.toList_data, ht]; rfl
    have hdr : (s.extract 1 s.size).data.toList = iDig s.data.toList := by
      rw [Lib.extract_data, iDig, if_pos hn, List.take_of_length_le (by rw [List.length_drop, ← hlen]; omega)]
    have hds : (s.extract 1 s.size).size ≤ 1000000000 := by rw [str_len, hdr, iDig, if_pos hn, List.length_drop, ← hlen]; omega
    rw [← hdr] at hk hz
    have HK := Lib.hid hk
    have HZ := Lib.hid hz
    clear hn ht hlen hdr hk hz
    go_enter Tryz.func74, Tryz.ntmps74
    go_wp2_with (first
      | (go_at_call 76; (with_reducible refine Calls.kReadK (readKC hds HK.out rfl) ?_); intros)
      | (go_at_call 88; (with_reducible refine Calls.cSg makeC ?_); intros))
    refine ret_bt rfl Tryz.underlying43 rfl (by kernel_rfl) rfl rfl rfl ?_
    exact ⟨_, _, _, _, rfl, CZ.cast inferInstance HZ.out (Nat.le_refl _), (inferInstance : Kp w _).out⟩
  · have hn' : iNeg s.data.toList = false := by simpa using hn
    rw [hn'] at hz
    have hdr : iDig s.data.toList = s.data.toList := by unfold iDig; rw [if_neg hn]
    rw [hdr] at hk hz
    have HK := Lib.hid hk
    have HZ := Lib.hid hz
    clear hdr hk hz
    by_cases he : s.data.toList = []
    · have hee : s.toList.isEmpty = true := by rw [Lib.toList_data, he]; rfl
      clear hn hn' hlen he
      go_enter Tryz.func74, Tryz.ntmps74
      go_wp2_with (first
        | (go_at_call 76; (with_reducible refine Calls.kReadK (readKC hsz HK.out rfl) ?_); intros)
        | (go_at_call 88; (with_reducible refine Calls.cSg makeC ?_); intros))
      refine ret_bt rfl Tryz.underlying43 rfl (by kernel_rfl) rfl rfl rfl ?_
      exact ⟨_, _, _, _, rfl, CZ.cast inferInstance HZ.out (Nat.le_refl _), (inferInstance : Kp w _).out⟩
    · have hee : s.toList.isEmpty = false := by
        rw [Lib.toList_data]
        cases hx : s.data.toList with
        | nil => exact absurd hx he
        | cons => rfl
      have hs1 : 1 ≤ s.size := by
        rw [hlen]
        cases hx : s.data.toList with
        | nil => exact absurd hx he
        | cons => simp
      have hs0 : 0 < s.size := hs1
      have h45 : (byteAt s 0).toNat ≠ 45 := by
        unfold byteAt
        cases hx : s.data.toList with
        | nil => exact absurd hx he
        | cons b t =>
          rw [hx] at hn'
          have h2 : b ≠ 45 := of_decide_eq_false hn'
          intro h3
          exact h2 (UInt8.toNat_inj.1 h3)
      have e45 : (((s[0]'hs0).toNat : Int) == 45) = false := by rw [beq_eq_false_iff_ne, byteAt_eq]; omega
      clear hn hn' hlen he h45
      go_enter Tryz.func74, Tryz.ntmps74
      go_wp2_with (first
        | (go_at_call 76; (with_reducible refine Calls.kReadK (readKC hsz HK.out rfl) ?_); intros)
        | (go_at_call 88; (with_reducible refine Calls.cSg makeC ?_); intros))
      refine ret_bt rfl Tryz.underlying43 rfl (by kernel_rfl) rfl rfl rfl ?_
      exact ⟨_, _, _, _, rfl, CZ.cast inferInstance HZ.out (Nat.le_refl _), (inferInstance : Kp w _).out⟩

theorem IsRow.keep {k : IntKind} {w w' : World} {a : Option Addr} {len cap : Nat} {zs : List Int} (h : IsRow k w a len cap zs) (hb : Below w.heap.size w w') : IsRow k w' a len cap zs := by
  rcases h with h | ⟨x, h1, h2, h3, h4, h5, h6⟩
  · exact .inl h
  · exact .inr ⟨x, h1, h2, h3, h4, fun i hi => (hb.cell (lt_of_cell (h5 i hi))).trans (h5 i hi), h6⟩
theorem ci_dl {W : World} {g : Bool} {a : Option Addr} {l c : Nat} {x : Int} {k : Nat} (h : CI W (.agg #[.bool g, .slice a l c]) x k) (hk : k ≤ 20) : (dl x.natAbs).length ≤ 200 := by
  obtain ⟨m, ⟨L, h1, rfl, h2⟩, rfl⟩ := zi_of h
  rw [sgn_abs]
  exact dl_val h1.dig (by omega)
theorem decI_size2 (x : Int) : (decI x).size ≤ 2 + (dl x.natAbs).length := by
  have h := decStr_size x.natAbs
  unfold decI
  split
  · rw [ByteArray.size_append]
    have : (⟨#[45]⟩ : ByteArray).size = 1 := rfl
    omega
  · omega
theorem decI_data (x : Int) : (decI x).data.toList = if x < 0 then 45 :: decL x.natAbs else decL x.natAbs := by
  unfold decI
  split
  · rw [ByteArray.data_append, Array.toList_append, decStr_data]; rfl
  · exact decStr_data _
theorem dec_kindI {x : Int} (h : (dl x.natAbs).length ≤ 4000) : pKind (iDig (decI x).data.toList) = 0 ∧ iVal (decI x).data.toList = x := by
  have hd := dec_kind h
  rw [decStr_data] at hd
  rw [decI_data]
  by_cases hx : x < 0
  · rw [if_pos hx]
    refine ⟨hd.1, ?_⟩
    show sgn true (bval (decL x.natAbs)) = x
    rw [hd.2]
    show -((x.natAbs : Nat) : Int) = x
    omega
  · rw [if_neg hx]
    have hneg : iNeg (decL x.natAbs) = false := by
      have h1 := decL_isD x.natAbs
      cases hL : decL x.natAbs with
      | nil => rfl
      | cons b t =>
        rw [hL] at h1
        have h2 := (isD_bd (h1 b (List.mem_cons_self ..))).2.1
        show decide (b = 45) = false
        refine decide_eq_false fun h3 => ?_
        subst h3
        exact absurd h2 (by decide)
    have hdg : iDig (decL x.natAbs) = decL x.natAbs := by unfold iDig; rw [hneg]; rfl
    rw [hdg]
    refine ⟨hd.1, ?_⟩
    unfold iVal
    rw [hneg, hdg, hd.2]
    show ((x.natAbs : Nat) : Int) = x
    omega
theorem iDig_len (l : List UInt8) : (iDig l).length ≤ l.length := by
  unfold iDig
  split
  · rw [List.length_drop]; omega
  · exact Nat.le_refl _
set_option maxRecDepth 100000 in
set_option maxHeartbeats 4000000 in
set_option synthInstance.maxSize 100000 in
set_option synthInstance.maxHeartbeats 1000000 in
theorem numFormatQ {w : World} {g1 : Bool} {a1 aa1 : Option Addr} {l1 c1 ll1 cc1 : Nat} {x : Rat} {k1 : Nat} [h1 : CQ w (.agg #[.bool g1, .slice a1 l1 c1, .slice aa1 ll1 cc1]) x k1] (b : k1 ≤ 100000 ∧ (dl x.num.natAbs).length ≤ 1000000 ∧ (dl x.den).length ≤ 1000000) :
    Calls Tryz.prog 28 #[.agg #[.bool g1, .slice a1 l1 c1, .slice aa1 ll1 cc1]] w fun e w' => e = .returned (.string (fmtQ x)) ∧ Below w.heap.size w w' := by
  have hz := h1.num
  have i2 : CN w (.slice a1 l1 c1) x.num.natAbs k1 := ⟨(zz_of hz).2⟩
  have hg := (zz_of hz).1
  have i3 := h1.den
  have hl3 := i3.out.len
  obtain ⟨b1, b2, b3⟩ := b
  have hd1 := decStr_size x.num.natAbs
  have hd2 := decStr_size x.den
  have hd3 := decI_size2 x.num
  have hs1 : (9223372036854775807 < 1 + (decStr x.num.natAbs).size) ↔ False := ⟨fun h => by omega, False.elim⟩
  have hs2 : (9223372036854775807 < 1 + (decStr x.den).size) ↔ False := ⟨fun h => by omega, False.elim⟩
  clear hz h1 hd3
  by_cases hx : x.num < 0
  · obtain rfl : g1 = true := by rw [hg]; simp [hx]
    have HI : Hid (decI x.num = ⟨#[45]⟩ ++ decStr x.num.natAbs) := if_pos hx
    clear hx hg
    by_cases hden : x.den = 1
    · have HF : Hid (fmtQ x = decI x.num) := if_pos hden
      rw [if_pos hden] at hl3
      obtain rfl : ll1 = 0 := hl3
      clear hden i3
      go_enter Tryz.func28, Tryz.ntmps28
      go_wp2_with (go_at_call 90; (with_reducible refine Calls.cE (numTextC (by omega)) ?_); intros)
      go_ret
      exact E.fin (by rw [HF.out, HI.out]; rfl)
    · have HF : Hid (fmtQ x = decI x.num ++ (⟨#[47]⟩ ++ decStr x.den)) := if_neg hden
      rw [if_neg hden] at hl3
      have hl0 : 0 < ll1 := by rw [hl3]; exact nf_len_pos x.den_nz
      have hl4 : ll1 ≤ k1 := by have := i3.out.2; rw [if_neg hden] at this; omega
      have i4 : CN w (.slice aa1 ll1 cc1) x.den k1 := i3.cast (if_neg hden) (Nat.le_refl _)
      have hs3 : (9223372036854775807 < 1 + (decStr x.num.natAbs).size + (1 + (decStr x.den).size)) ↔ False := ⟨fun h => by omega, False.elim⟩
      clear hden i3 hl3
      go_enter Tryz.func28, Tryz.ntmps28
      go_wp2_with (go_at_call 90; (with_reducible refine Calls.cE (numTextC (by omega)) ?_); intros)
      go_ret
      exact E.fin (by rw [HF.out, HI.out]; rfl)
  · obtain rfl : g1 = false := by rw [hg]; simp [hx]
    have HI : Hid (decI x.num = decStr x.num.natAbs) := if_neg hx
    clear hx hg
    by_cases hden : x.den = 1
    · have HF : Hid (fmtQ x = decI x.num) := if_pos hden
      rw [if_pos hden] at hl3
      obtain rfl : ll1 = 0 := hl3
      clear hden i3
      go_enter Tryz.func28, Tryz.ntmps28
      go_wp2_with (go_at_call 90; (with_reducible refine Calls.cE (numTextC (by omega)) ?_); intros)
      go_ret
      exact E.fin (by rw [HF.out, HI.out]; rfl)
    · have HF : Hid (fmtQ x = decI x.num ++ (⟨#[47]⟩ ++ decStr x.den)) := if_neg hden
      rw [if_neg hden] at hl3
      have hl0 : 0 < ll1 := by rw [hl3]; exact nf_len_pos x.den_nz
      have hl4 : ll1 ≤ k1 := by have := i3.out.2; rw [if_neg hden] at this; omega
      have i4 : CN w (.slice aa1 ll1 cc1) x.den k1 := i3.cast (if_neg hden) (Nat.le_refl _)
      have hs3 : (9223372036854775807 < (decStr x.num.natAbs).size + (1 + (decStr x.den).size)) ↔ False := ⟨fun h => by omega, False.elim⟩
      clear hden i3 hl3
      go_enter Tryz.func28, Tryz.ntmps28
      go_wp2_with (go_at_call 90; (with_reducible refine Calls.cE (numTextC (by omega)) ?_); intros)
      go_ret
      exact E.fin (by rw [HF.out, HI.out]; rfl)
end Go.Proofs.YtnkfbkdcplbgoaaGreatDoor

/- ref01.ReadQ. -/
namespace Go.Proofs.YtnkfbkdcplbgoaaGreatDoor
open Go.RowKit

/-- The place of the first stroke from j on (the length, if there is none). -/
def atL (l : List UInt8) (j : Nat) : Nat := j + (l.drop j).findIdx (fun b => b == 47)
theorem atL_end (l : List UInt8) : atL l l.length = l.length := by unfold atL; rw [List.drop_length]; rfl
theorem atL_zero (l : List UInt8) : atL l 0 = slashAt l := by unfold atL slashAt; rw [Nat.zero_add]; rfl
theorem atL_step {s : ByteArray} {j : Nat} (h : j < s.size) : atL s.data.toList j = if byteAt s j = 47 then j else atL s.data.toList (j + 1) := by
  have hl : j < s.data.toList.length := by rw [← str_len]; exact h
  have e : s.data.toList[j] = byteAt s j := by unfold byteAt; rw [List.getD_eq_getElem?_getD, List.getElem?_eq_getElem hl]; rfl
  unfold atL
  rw [List.drop_eq_getElem_cons hl, List.findIdx_cons, e]
  by_cases hb : byteAt s j = 47
  · rw [if_pos hb, hb]; rfl
  · have h2 : (byteAt s j == 47) = false := by simpa using hb
    rw [if_neg hb, h2]
    show j + (_ + 1) = j + 1 + _
    omega
theorem slash_none {l : List UInt8} (h : hasSlash l = false) : slashAt l = l.length := by
  unfold slashAt
  rw [List.findIdx_eq_length]
  intro b hb
  unfold hasSlash at h
  cases hx : b == 47 with
  | false => rfl
  | true =>
    rw [beq_iff_eq.1 hx] at hb
    rw [List.contains_eq_mem, decide_eq_true hb] at h
    cases h
/-- What ref01.ReadQ returns: a number and a kind. -/
def ReadQRet (w : World) (q : Rat) (k : Nat) (e : Ending) (w' : World) : Prop :=
  ∃ g a l c aa ll cc, e = .returned (.tuple #[.agg #[.bool g, .slice a l c, .slice aa ll cc], .int .i64 ((k : Nat) : Int)]) ∧ CQ w' (.agg #[.bool g, .slice a l c, .slice aa ll cc]) q 9000 ∧ Below w.heap.size w w'
theorem Calls.kReadQ {P : Program} {f : FuncId} {args : Array Value} {w : World} {q : Rat} {k : Nat} {K : Ending → World → Prop} (h : Calls P f args w (ReadQRet w q k))
    (hK : ∀ w' [Kp1 w w'] g a l c aa ll cc [CQ w' (.agg #[.bool g, .slice a l c, .slice aa ll cc]) q 9000], K (.returned (.tuple #[.agg #[.bool g, .slice a l c, .slice aa ll cc], .int .i64 ((k : Nat) : Int)])) w') : Calls P f args w K := by
  refine h.mono ?_
  rintro e w' ⟨g, a, l, c, aa, ll, cc, rfl, hx, hb⟩
  exact @hK w' ⟨hb⟩ g a l c aa ll cc hx
set_option maxRecDepth 100000 in
set_option maxHeartbeats 4000000 in
set_option synthInstance.maxSize 100000 in
set_option synthInstance.maxHeartbeats 1000000 in
/-- No stroke. -/
theorem readQ_n {w : World} {s : ByteArray} (hsz : s.size ≤ 4000) (hh : hasSlash s.data.toList = false) {k : Nat} {q : Rat} {z : Int} (hk : pKind (iDig s.data.toList) = k) (hk2 : k < 2) (hz : sgn (iNeg s.data.toList) (if k = 0 then bval (iDig s.data.toList) else 0) = z)
    (hq : q = if k = 0 then mkRat z 1 else 0) : Calls Tryz.prog 19 #[.string s] w (ReadQRet w q k) := by
  have HLEN := Lib.hid (str_len s)
  have HAT : Hid (atL s.data.toList 0 = s.size) := by show _ = _; rw [atL_zero, slash_none hh, HLEN.out]
  have HEND : Hid (atL s.data.toList s.size = s.size) := by show _ = _; rw [HLEN.out, atL_end]
  have HK := Lib.hid hk
  have HZ := Lib.hid hz
  have HQ := Lib.hid hq
  clear hk hz hq hh
  go_enter Tryz.func19, Tryz.ntmps19
  go_wp2_with fail
  go_loop [4, 5] (fun av iv => ∃ j : Nat, j ≤ s.size ∧ iv = .int .i64 ((j : Int) - 1) ∧ av = .int .i64 ((atL s.data.toList j : Nat) : Int)) (fun _ iv => (intOf iv + 1).toNat)
  case atStart => exact ⟨s.size, Nat.le_refl _, rfl, by rw [HEND.out]⟩
  case round =>
    obtain ⟨j, hj, rfl, rfl⟩ := hrel
    by_cases h0 : 0 < j
    · obtain ⟨i, rfl⟩ : ∃ i, j = i + 1 := ⟨j - 1, by omega⟩
      have hlt : i < s.size := by omega
      have hix := ix_str s i hlt
      have hst := atL_step hlt
      have ei : (((i + 1 : Nat) : Int) - 1) = i := by omega
      rw [ei]
      by_cases hb : byteAt s i = 47
      · rw [if_pos hb] at hst
        have HST := Lib.hid hst
        have hb2 : (((byteAt s i).toNat : Int) == 47) = true := by rw [hb]; rfl
        clear hb hst
        go_wp2
        go_round
        case rel => exact ⟨i, by omega, rfl, by rw [HST.out]⟩
        case measure => simp [intOf]
      · rw [if_neg hb] at hst
        have HST := Lib.hid hst
        have hb2 : (((byteAt s i).toNat : Int) == 47) = false := by
          rw [beq_eq_false_iff_ne]
          intro h
          exact hb (UInt8.toNat_inj.1 (by show _ = 47; omega))
        clear hb hst
        go_wp2
        go_round
        case rel => exact ⟨i, by omega, rfl, by rw [HST.out]⟩
        case measure => simp [intOf]
    · obtain rfl : j = 0 := by omega
      rw [HAT.out]
      clear HAT HEND HLEN
      go_wp2_with fail
      with_reducible refine Calls.kReadI (readIC (by omega) HK.out HZ.out) ?_
      intro W1 _ g1 a1 n1 c1 _
      go_wp2_with fail
      with_reducible refine Calls.cN oneC ?_
      intro W2 _ a2 l2 c2 i2
      obtain rfl : l2 = 1 := i2.out.len
      obtain rfl | rfl : k = 0 ∨ k = 1 := by omega
      · have hq : q = mkRat z 1 := HQ.out
        subst hq
        go_wp2_with (go_at_call 77; (with_reducible refine Calls.cQ (numFracC (by omega) (by decide)) ?_); intros)
        refine ret_bt rfl Tryz.underlying45 rfl (by kernel_rfl) rfl rfl rfl ?_
        exact ⟨_, _, _, _, _, _, _, rfl, CQ.cast inferInstance rfl (by omega), (inferInstance : Kp w _).out⟩
      · have hq : q = 0 := HQ.out
        subst hq
        go_wp2_with fail
        refine ret_bt rfl Tryz.underlying45 rfl (by kernel_rfl) rfl rfl rfl ?_
        exact ⟨_, _, _, _, _, _, _, rfl, CQ.cast inferInstance rfl (by omega), (inferInstance : Kp w _).out⟩
set_option maxRecDepth 100000 in
set_option maxHeartbeats 4000000 in
set_option synthInstance.maxSize 100000 in
set_option synthInstance.maxHeartbeats 1000000 in
/-- A stroke. -/
theorem readQ_s {w : World} {s : ByteArray} (hsz : s.size ≤ 4000) (hh : hasSlash s.data.toList = true) {e f d k : Nat} {q : Rat} {z : Int} (he : pKind (iDig (cutL s.data.toList)) = e) (he2 : e < 2) (hz : sgn (iNeg (cutL s.data.toList)) (if e = 0 then bval (iDig (cutL s.data.toList)) else 0) = z)
    (hf : pKind (cutR s.data.toList) = f) (hf2 : f < 2) (hd : (if f = 0 then bval (cutR s.data.toList) else 0) = d)
    (hq : q = if e = 0 ∧ f = 0 ∧ d ≠ 0 then mkRat z d else 0) (hk : k = if e = 1 ∨ f = 1 then 1 else if d = 0 then 3 else 0) : Calls Tryz.prog 19 #[.string s] w (ReadQRet w q k) := by
  have HLEN := Lib.hid (str_len s)
  have hp := slash_lt hh
  have hp1 : slashAt s.data.toList < s.size := by rw [HLEN.out]; exact hp
  have hL : (s.extract 0 (slashAt s.data.toList)).data.toList = cutL s.data.toList := by
    rw [Lib.extract_data, cutL, if_pos hh, List.drop_zero, Nat.sub_zero]
  have hR : (s.extract (slashAt s.data.toList + 1) s.size).data.toList = cutR s.data.toList := by
    rw [Lib.extract_data, cutR, if_pos hh, List.take_of_length_le (by rw [List.length_drop, ← HLEN.out]; omega)]
  have HAT : Hid (atL s.data.toList 0 = slashAt s.data.toList) := by show _ = _; rw [atL_zero]
  have HEND : Hid (atL s.data.toList s.size = s.size) := by show _ = _; rw [HLEN.out, atL_end]
  rw [← hL] at he hz
  rw [← hR] at hf hd
  have hs1 : (s.extract 0 (slashAt s.data.toList)).size ≤ 4000 := by rw [str_len, hL]; have := cutL_len s.data.toList; have := HLEN.out; omega
  have hs2 : (s.extract (slashAt s.data.toList + 1) s.size).size ≤ 4000 := by rw [str_len, hR]; have := cutR_len s.data.toList; have := HLEN.out; omega
  have HE := Lib.hid he
  have HZ := Lib.hid hz
  have HF := Lib.hid hf
  have HD := Lib.hid hd
  have HQ := Lib.hid hq
  have HK := Lib.hid hk
  clear he hz hf hd hq hk hh hL hR hp
  generalize slashAt s.data.toList = p at *
  go_enter Tryz.func19, Tryz.ntmps19
  go_wp2_with fail
  go_loop [4, 5] (fun av iv => ∃ j : Nat, j ≤ s.size ∧ iv = .int .i64 ((j : Int) - 1) ∧ av = .int .i64 ((atL s.data.toList j : Nat) : Int)) (fun _ iv => (intOf iv + 1).toNat)
  case atStart => exact ⟨s.size, Nat.le_refl _, rfl, by rw [HEND.out]⟩
  case round =>
    obtain ⟨j, hj, rfl, rfl⟩ := hrel
    by_cases h0 : 0 < j
    · obtain ⟨i, rfl⟩ : ∃ i, j = i + 1 := ⟨j - 1, by omega⟩
      have hlt : i < s.size := by omega
      have hix := ix_str s i hlt
      have hst := atL_step hlt
      have ei : (((i + 1 : Nat) : Int) - 1) = i := by omega
      rw [ei]
      by_cases hb : byteAt s i = 47
      · rw [if_pos hb] at hst
        have HST := Lib.hid hst
        have hb2 : (((byteAt s i).toNat : Int) == 47) = true := by rw [hb]; rfl
        clear hb hst
        go_wp2
        go_round
        case rel => exact ⟨i, by omega, rfl, by rw [HST.out]⟩
        case measure => simp [intOf]
      · rw [if_neg hb] at hst
        have HST := Lib.hid hst
        have hb2 : (((byteAt s i).toNat : Int) == 47) = false := by
          rw [beq_eq_false_iff_ne]
          intro h
          exact hb (UInt8.toNat_inj.1 (by show _ = 47; omega))
        clear hb hst
        go_wp2
        go_round
        case rel => exact ⟨i, by omega, rfl, by rw [HST.out]⟩
        case measure => simp [intOf]
    · obtain rfl : j = 0 := by omega
      rw [HAT.out]
      clear HAT HEND HLEN
      go_wp2_with fail
      with_reducible refine Calls.kReadI (readIC (by omega) HE.out HZ.out) ?_
      intro W1 _ g1 a1 n1 c1 _
      go_wp2_with fail
      with_reducible refine Calls.cN oneC ?_
      intro W2 _ a2 l2 c2 i2
      obtain rfl : l2 = 1 := i2.out.len
      go_wp2_with fail
      with_reducible refine Calls.kReadK (readKC (by omega) HF.out HD.out) ?_
      intro W3 _ a3 l3 c3 i3
      have hl3 := i3.out.len
      obtain rfl | rfl : e = 0 ∨ e = 1 := by omega
      · obtain rfl | rfl : f = 0 ∨ f = 1 := by omega
        · by_cases hd : d = 0
          · subst hd
            obtain rfl : l3 = 0 := hl3
            have hq : q = 0 := HQ.out
            have hk : k = 3 := HK.out
            subst hq
            subst hk
            go_wp2_with fail
            refine ret_bt rfl Tryz.underlying45 rfl (by kernel_rfl) rfl rfl rfl ?_
            exact ⟨_, _, _, _, _, _, _, rfl, CQ.cast inferInstance rfl (by omega), (inferInstance : Kp w _).out⟩
          · have hq : q = mkRat z d := by rw [HQ.out, if_pos ⟨rfl, rfl, hd⟩]
            subst hq
            have hl0 : ((l3 : Int) == 0) = false := by rw [beq_eq_false_iff_ne, hl3]; have := nf_len_pos hd; omega
            have hk : k = 0 := by rw [HK.out, if_neg (by decide), if_neg hd]
            subst hk
            clear hl3
            go_wp2_with (go_at_call 77; (with_reducible refine Calls.cQ (numFracC (by omega) hd) ?_); intros)
            refine ret_bt rfl Tryz.underlying45 rfl (by kernel_rfl) rfl rfl rfl ?_
            exact ⟨_, _, _, _, _, _, _, rfl, CQ.cast inferInstance rfl (by omega), (inferInstance : Kp w _).out⟩
        · have hq : q = 0 := by rw [HQ.out, if_neg (by omega)]
          have hk : k = 1 := HK.out
          subst hq
          subst hk
          go_wp2_with fail
          refine ret_bt rfl Tryz.underlying45 rfl (by kernel_rfl) rfl rfl rfl ?_
          exact ⟨_, _, _, _, _, _, _, rfl, CQ.cast inferInstance rfl (by omega), (inferInstance : Kp w _).out⟩
      · have hq : q = 0 := by rw [HQ.out, if_neg (by omega)]
        have hk : k = 1 := HK.out
        subst hq
        subst hk
        go_wp2_with fail
        refine ret_bt rfl Tryz.underlying45 rfl (by kernel_rfl) rfl rfl rfl ?_
        exact ⟨_, _, _, _, _, _, _, rfl, CQ.cast inferInstance rfl (by omega), (inferInstance : Kp w _).out⟩
end Go.Proofs.YtnkfbkdcplbgoaaGreatDoor

/- The text of a rational number, taken apart again. -/
namespace Go.Proofs.YtnkfbkdcplbgoaaGreatDoor
open Go.RowKit

theorem slashAt_app (r : List UInt8) : ∀ p : List UInt8, (∀ b ∈ p, b ≠ 47) → slashAt (p ++ 47 :: r) = p.length
  | [], _ => by unfold slashAt; rw [List.nil_append, List.findIdx_cons]; rfl
  | b :: p, h => by
    have ih := slashAt_app r p fun c hc => h c (List.mem_cons_of_mem _ hc)
    have hb : (b == 47) = false := by rw [beq_eq_false_iff_ne]; exact h b (List.mem_cons_self ..)
    unfold slashAt at *
    rw [List.cons_append, List.findIdx_cons, hb, ih]
    rfl
theorem hasSlash_app (p r : List UInt8) : hasSlash (p ++ 47 :: r) = true := by unfold hasSlash; simp
theorem hasSlash_none {p : List UInt8} (h : ∀ b ∈ p, b ≠ 47) : hasSlash p = false := by
  unfold hasSlash
  rw [List.contains_eq_mem, decide_eq_false_iff_not]
  exact fun hm => h 47 hm rfl
theorem cutL_app {p r : List UInt8} (h : ∀ b ∈ p, b ≠ 47) : cutL (p ++ 47 :: r) = p := by
  unfold cutL
  rw [if_pos (hasSlash_app p r), slashAt_app r p h, List.take_left]
theorem cutR_app {p r : List UInt8} (h : ∀ b ∈ p, b ≠ 47) : cutR (p ++ 47 :: r) = r := by
  unfold cutR
  rw [if_pos (hasSlash_app p r), slashAt_app r p h]
  simp
theorem isD_ne {b : UInt8} (h : isD b = true) : b ≠ 47 := fun e => by subst e; exact absurd h (by decide)
theorem decI_ne (z : Int) : ∀ b ∈ (decI z).data.toList, b ≠ 47 := by
  rw [decI_data]
  intro b hb
  split at hb
  · rcases List.mem_cons.1 hb with rfl | hb
    · decide
    · exact isD_ne (decL_isD _ b hb)
  · exact isD_ne (decL_isD _ b hb)
/-- The text of a whole number. -/
theorem fmtQ_int {x : Rat} (hd : x.den = 1) (hb : (dl x.num.natAbs).length ≤ 4000) :
    hasSlash (fmtQ x).data.toList = false ∧ pKind (iDig (cutL (fmtQ x).data.toList)) = 0 ∧ iVal (cutL (fmtQ x).data.toList) = x.num := by
  have e : fmtQ x = decI x.num := if_pos hd
  have h1 := hasSlash_none (decI_ne x.num)
  rw [e]
  refine ⟨h1, ?_⟩
  have h2 : cutL (decI x.num).data.toList = (decI x.num).data.toList := by unfold cutL; rw [h1]; rfl
  rw [h2]
  exact dec_kindI hb
/-- The text of a fraction. -/
theorem fmtQ_frac {x : Rat} (hd : x.den ≠ 1) (hb : (dl x.num.natAbs).length ≤ 4000) (hb2 : (dl x.den).length ≤ 4000) :
    hasSlash (fmtQ x).data.toList = true ∧ (pKind (iDig (cutL (fmtQ x).data.toList)) = 0 ∧ iVal (cutL (fmtQ x).data.toList) = x.num) ∧ pKind (cutR (fmtQ x).data.toList) = 0 ∧ bval (cutR (fmtQ x).data.toList) = x.den := by
  have e : (fmtQ x).data.toList = (decI x.num).data.toList ++ 47 :: decL x.den := by
    have e1 : fmtQ x = decI x.num ++ (⟨#[47]⟩ ++ decStr x.den) := if_neg hd
    rw [e1, ByteArray.data_append, Array.toList_append, ByteArray.data_append, Array.toList_append, decStr_data]
    rfl
  rw [e, cutL_app (decI_ne _), cutR_app (decI_ne _)]
  have h2 := dec_kind hb2
  rw [decStr_data] at h2
  exact ⟨hasSlash_app _ _, dec_kindI hb, h2.1, h2.2⟩
theorem fmtQ_size (x : Rat) : (fmtQ x).size ≤ 4 + (dl x.num.natAbs).length + (dl x.den).length := by
  have h1 := decI_size2 x.num
  have h2 := decStr_size x.den
  unfold fmtQ
  split
  · omega
  · rw [ByteArray.size_append, ByteArray.size_append]
    have : (⟨#[47]⟩ : ByteArray).size = 1 := rfl
    omega
/-- Parse reads back what Format writes. -/
theorem parse_fmt {w w1 w2 w3 : World} {a0 a1 a2 : Addr} [h0 : Snt w 0 a0 w1] [h1 : Snt w 2 a1 w2] [h2 : Snt w 1 a2 w3] (hne : a1 ≠ a0) {x : Rat} (hs : (fmtQ x).size ≤ 1000000) (b1 : (dl x.num.natAbs).length ≤ 4000) (b2 : (dl x.den).length ≤ 4000) :
    Calls Tryz.prog 22 #[.string (fmtQ x)] w (RatRet w x 5000) := by
  by_cases hd : x.den = 1
  · obtain ⟨e1, e2⟩ := fmtQ_int hd b1
    have h := rparse_0n (w := w) (fmtQ x) hne hs e1 e2
    rwa [show mkRat x.num 1 = x by rw [← hd]; exact Rat.mkRat_self x] at h
  · obtain ⟨e1, e2, e3⟩ := fmtQ_frac hd b1 b2
    have h := rparse_00p (w := w) (fmtQ x) hne hs e1 e2 e3 x.den_nz
    rwa [Rat.mkRat_self] at h
theorem val_p {l : List Nat} (h : Dig l) {k : Nat} (hk : 10 * l.length ≤ k) : val l < 10 ^ k := by
  refine Nat.lt_of_lt_of_le (val_lt l h) (Nat.le_trans ?_ (Nat.pow_le_pow_right (by omega) hk))
  rw [Nat.pow_mul]
  exact Nat.pow_le_pow_left (by decide) _
theorem cw_dl {W : World} {g : Bool} {a aa : Option Addr} {l c ll cc : Nat} {x : Rat} {k : Nat} (h : CW W (.agg #[.bool g, .slice a l c, .slice aa ll cc]) x k) {t : Nat} (hk : 10 * k ≤ t) (ht : 1 ≤ t) : (dl x.num.natAbs).length ≤ t ∧ (dl x.den).length ≤ t := by
  obtain ⟨z, m, rfl, i1, i2⟩ := CW.parts h
  obtain ⟨n, ⟨L, h1, rfl, h2⟩, rfl⟩ := zi_of i1
  obtain ⟨M, h3, rfl, h4⟩ := i2.out
  have e1 : val L < 10 ^ t := val_p h1.dig (by omega)
  have e2 : val M < 10 ^ t := val_p h3.dig (by omega)
  by_cases hm : val M = 0
  · rw [hm, Rat.mkRat_zero]
    exact ⟨Nat.zero_le _, ht⟩
  · refine ⟨dl_len ?_, dl_len ?_⟩
    · rw [mk_abs _ hm, sgn_abs]
      exact Nat.lt_of_le_of_lt (Nat.div_le_self _ _) e1
    · rw [mk_den _ hm]
      exact Nat.lt_of_le_of_lt (Nat.div_le_self _ _) e2
end Go.Proofs.YtnkfbkdcplbgoaaGreatDoor
