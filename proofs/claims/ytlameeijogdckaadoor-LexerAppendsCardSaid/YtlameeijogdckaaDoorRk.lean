/-
  The reference's tokens of a text.
  Printed by a small program (mklex8.py).
-/
import Derived.Test.YtlameeijogdckaaDoorTs
namespace Go.Proofs.YtlameeijogdckaaDoor
open Go.RowKit

theorem ret_tb {P : Program} {fn : Func} {R : Ending → World → Prop} {a : Act} {W : World} {b : Nat} {p u : Tmp} {ty t : TypeId} {d : TypeDesc} {l l' : List Value} [hb : Bx W b t l] (hr : fn.results = #[.tmp u, .cell p ty])
    (hu : P.underlying ty = some d) (hd : (match d with | .struct _ | .array _ _ => true | _ => false) = true) (hi : (P.info? ty).map (·.size) = some l.length)
    (hp : a.tmps.getD p undef = .pointer (some ⟨b, 0, none⟩)) (hdf : a.defers = []) (hl : l = l') (hR : R (.returned (.tuple #[a.tmps.getD u undef, .agg l'.toArray])) W) : bodyPost P fn R .ret a W := by
  subst hl
  refine ⟨hdf, _, ?_, hR⟩
  have hp' : a.tmps[p]?.getD undef = .pointer (some ⟨b, 0, none⟩) := by simpa using hp
  have h1 : (loadVar ty ⟨b, 0, none⟩).run P W = .ok (.agg l.toArray) W := loadVar_at W b ty l d hu hd hi (fun j hj => by rw [cell_bx, List.getElem?_eq_getElem hj])
  simp [results, hr, hp', asAddr, h1]
theorem cls_seven (b : UInt8) : b.toNat = 10 ∨ (isBl b = true ∧ (b.toNat = 9 ∨ b.toNat = 13 ∨ b.toNat = 32)) ∨ b.toNat = 35 ∨ ((b.toNat ≠ 10 ∧ b.toNat ≠ 9 ∧ b.toNat ≠ 13 ∧ b.toNat ≠ 32 ∧ b.toNat ≠ 35) ∧
    ((isLetter b = true) ∨ (isLetter b = false ∧ isDg b = true) ∨ (isLetter b = false ∧ isDg b = false ∧ isSg b = true) ∨ (isBl b = false ∧ isLetter b = false ∧ isDg b = false ∧ isSg b = false))) := by
  by_cases h0 : b.toNat = 10
  · exact .inl h0
  by_cases h1 : isBl b = true
  · refine .inr (.inl ⟨h1, ?_⟩)
    simp [isBl] at h1; omega
  by_cases h2 : b.toNat = 35
  · exact .inr (.inr (.inl h2))
  have h1' : isBl b = false := by simpa using h1
  refine .inr (.inr (.inr ⟨⟨h0, ?_, ?_, ?_, h2⟩, ?_⟩))
  · intro e; simp [isBl, e] at h1'
  · intro e; simp [isBl, e] at h1'
  · intro e; simp [isBl, e] at h1'
  cases h3 : isLetter b with
  | true => exact .inl rfl
  | false =>
    cases h4 : isDg b with
    | true => exact .inr (.inl ⟨rfl, rfl⟩)
    | false =>
      cases h5 : isSg b with
      | true => exact .inr (.inr (.inl ⟨rfl, rfl, rfl⟩))
      | false => exact .inr (.inr (.inr ⟨h1', rfl, rfl, rfl⟩))
abbrev zE : List Value := [.int .i64 0, .int .i64 0, .int .i64 0, .string ⟨#[]⟩]
/-- The reference's answer. -/
def RkRet (w : World) (s : ByteArray) (e : Ending) (w' : World) : Prop :=
  (∃ L a n c, tkS s = .ok L ∧ e = .returned (.tuple #[.slice a n c, .agg #[.int .i64 0, .int .i64 0, .int .i64 0, .string ⟨#[]⟩]]) ∧ CT w' (.slice a n c) L w' ∧ Below w.heap.size w w') ∨
  (∃ k n c t, tkS s = .er k n c t ∧ e = .returned (.tuple #[.slice none 0 0, .agg #[.int .i64 ((k : Nat) : Int), .int .i64 ((n : Nat) : Int), .int .i64 ((c : Nat) : Int), strV t]]) ∧ Below w.heap.size w w')
theorem sl_str {s : ByteArray} {p r k : Nat} {T : List UInt8} (hT : Hid ((s.data.toList.drop p).take r = T)) (hk : k = p + r) (hs : k ≤ s.size) (W : World) :
    (Instr.slice 9 (.string s) (some (.int .i64 (p : Int))) (some (.int .i64 (k : Int))) none).run Tryd.prog W = .ok (strV T) W := by
  subst hk
  have HE := ext_take s p r
  have e1 : ((p + r : Nat) : Int).toNat = p + r := Int.toNat_natCast _
  rw [run_slice_string W _ _ _ _ _ _ Tryd.underlying9 (by omega) (by omega) (by omega), e1, Int.toNat_natCast, HE, hT.out]
set_option maxRecDepth 100000 in
set_option maxHeartbeats 4000000 in
set_option synthInstance.maxSize 100000 in
set_option synthInstance.maxHeartbeats 1000000 in
theorem refTokensC {w : World} {s : ByteArray} (b : s.size ≤ 60000) : Calls Tryd.prog 9 #[.string s] w (RkRet w s) := by
  have hb : (s.size : Int) ≤ 65536 := by omega
  go_enter Tryd.func9, Tryd.ntmps9
  go_wp2_with fail
  go_loopg [4, 5, 6, 7] (s.size + 1) (fun g o ln st i wr => ∃ (p l q : Nat) (L : List Tk), ln = .int .i64 ((l : Nat) : Int) ∧ st = .int .i64 ((q : Nat) : Int) ∧ i = .int .i64 ((p : Nat) : Int) ∧ p + g = s.size + 1 ∧ p ≤ s.size ∧ q ≤ p ∧ l ≤ p + 1 ∧
    Rw wr o 36 4 L.length (tkL L) (w.heap.size + 1) wr ∧ Kp w wr ∧ Bx wr w.heap.size 29 zE ∧ Hid (tkS s = Tr.pre L (tkAt s p l (p - q + 1))) ∧ L.length ≤ p)
  case atStart => exact ⟨0, 1, 0, [], rfl, rfl, rfl, by omega, by omega, by omega, by omega, Rw.nil (by simp), inferInstance, Bx.re rfl, rfl, by simp⟩
  case round =>
    obtain ⟨p, l, q, L, rfl, rfl, rfl, hg, h1, h2, h3, i2, i3, i4, hT, h5⟩ := hrel
    by_cases hlt : p < s.size
    · have hix := ix_str s p hlt
      have HLT := Lib.hid hlt
      have hlt' : (p : Int) < s.size := by omega
      have ep : IntKind.i64.wrap ((p : Int) + 1) = (p : Int) + 1 := wr_in (by omega) (by omega)
      clear hlt
      rcases cls_seven (byteAt s p) with hc | ⟨hbl, hc⟩ | hc | ⟨⟨n0, n1, n2, n3, n4⟩, hc⟩
      · have HT := Lib.hid (hT.out.trans (by rw [tk_nl HLT.out hc]))
        have el : IntKind.i64.wrap ((l : Int) + 1) = (l : Int) + 1 := wr_in (by omega) (by omega)
        clear hT
        go_wp2_with fail
        go_roundg (s.size - p)
        case measure => have := HLT.out; omega
        case rel => exact ⟨p + 1, l + 1, p + 1, L, by go_num, by go_num, by go_num, by omega, by omega, by omega, by omega, Rw.cast (Rw.here inferInstance) (by simp) (by rfl), inferInstance, Bx.re rfl, (by rw [show p + 1 - (p + 1) + 1 = 1 by omega]; exact HT), by first | omega | (simp; omega)⟩
      · have HT := Lib.hid (hT.out.trans (by rw [tk_bl HLT.out hbl]))
        clear hT hbl
        rcases hc with hc | hc | hc
        all_goals
          go_wp2_with fail
          go_roundg (s.size - p)
          case measure => have := HLT.out; omega
          case rel => exact ⟨p + 1, l, q, L, by go_num, by go_num, by go_num, by omega, by omega, by omega, by omega, Rw.cast (Rw.here inferInstance) (by simp) (by rfl), inferInstance, Bx.re rfl, (by rw [show p + 1 - q + 1 = p - q + 1 + 1 by omega]; exact HT), by first | omega | (simp; omega)⟩
      · obtain ⟨r, hr⟩ : ∃ r, runL notLF (s.data.toList.drop p) = r := ⟨_, rfl⟩
        have hr1 : 1 ≤ r := by have := run_step HLT.out (p := notLF) (by simp [notLF, hc]); omega
        have HT := Lib.hid (hT.out.trans (by rw [tk_cm HLT.out hc hr]))
        clear hT
        go_wp2_with fail
        go_loopw [7] (fun i wx => ∃ k : Nat, i = .int .i64 ((k : Nat) : Int) ∧ p ≤ k ∧ k ≤ s.size ∧ wr = wx ∧ Hid (p + r = k + runL notLF (s.data.toList.drop k))) (fun i _ => s.size - (intOf i).toNat)
        case atStart => exact ⟨p, rfl, by omega, by have := HLT.out; omega, rfl, by show _ = _; rw [hr]⟩
        case round =>
          obtain ⟨k, rfl, k1, k2, rfl, hK⟩ := hrel
          clear hix hc
          by_cases klt : k < s.size
          · have hix := ix_str s k klt
            have HKL := Lib.hid klt
            have klt' : (k : Int) < s.size := by omega
            have ek : IntKind.i64.wrap ((k : Int) + 1) = (k : Int) + 1 := wr_in (by omega) (by omega)
            clear klt
            by_cases hnl : (byteAt s k).toNat = 10
            · have HR : Hid (p + r = k) := by show _ = _; rw [hK.out, run_stop HKL.out (p := notLF) (by simp [notLF, hnl])]; rfl
              clear hK
              go_wp2_with fail
              go_roundg (s.size + 1 - k)
              case measure => have := HR.out; have := HLT.out; omega
              case rel => exact ⟨k, l, q, L, by go_num, by go_num, by go_num, by omega, by omega, by omega, by omega, Rw.cast (Rw.here inferInstance) (by simp) (by rfl), inferInstance, Bx.re rfl, (by have := HR.out; rw [show k - q + 1 = p - q + 1 + r by omega, ← HR.out]; exact HT), by first | omega | (simp; omega)⟩
            · have HR : Hid (p + r = (k + 1) + runL notLF (s.data.toList.drop (k + 1))) := by show _ = _; rw [hK.out, run_step HKL.out (p := notLF) (by simp [notLF, hnl])]; omega
              have f10 : (((byteAt s k).toNat : Int) == 10) = false := by rw [beq_eq_false_iff_ne]; omega
              clear hK hnl
              go_wp2_with fail
              go_roundw
              case rel => exact ⟨k + 1, by go_num, by omega, by have := HKL.out; omega, trivial, HR⟩
              case measure => simp [intOf]; have := HKL.out; omega
          · have klt' : (s.size : Int) ≤ (k : Int) := by omega
            have HR : Hid (p + r = k) := by show _ = _; rw [hK.out, run_end (by omega)]; rfl
            clear hK klt
            go_wp2_with fail
            go_roundg (s.size + 1 - k)
            case measure => have := HR.out; have := HLT.out; omega
            case rel => exact ⟨k, l, q, L, by go_num, by go_num, by go_num, by omega, by omega, by omega, by omega, Rw.cast (Rw.here inferInstance) (by simp) (by rfl), inferInstance, Bx.re rfl, (by have := HR.out; rw [show k - q + 1 = p - q + 1 + r by omega, ← HR.out]; exact HT), by first | omega | (simp; omega)⟩
      · have f0 : (((byteAt s p).toNat : Int) == 10) = false := by rw [beq_eq_false_iff_ne]; omega
        have f1 : (((byteAt s p).toNat : Int) == 9) = false := by rw [beq_eq_false_iff_ne]; omega
        have f2 : (((byteAt s p).toNat : Int) == 13) = false := by rw [beq_eq_false_iff_ne]; omega
        have f3 : (((byteAt s p).toNat : Int) == 32) = false := by rw [beq_eq_false_iff_ne]; omega
        have f4 : (((byteAt s p).toNat : Int) == 35) = false := by rw [beq_eq_false_iff_ne]; omega
        obtain ⟨c, hcc⟩ : ∃ c, p - q + 1 = c := ⟨_, rfl⟩
        have e1 : IntKind.i64.wrap ((p : Int) - (q : Int)) = (p : Int) - (q : Int) := wr_in (by omega) (by omega)
        have e2 : IntKind.i64.wrap ((p : Int) - (q : Int) + 1) = (c : Int) := by rw [wr_in (by omega) (by omega)]; omega
        have HN := Lib.hid (And.intro n0 n4)
        rw [hcc] at hT
        have HC := Lib.hid hcc
        clear n0 n1 n2 n3 n4 hcc
        rcases hc with hc | ⟨hc1, hc⟩ | ⟨hc1, hc2, hc⟩ | ⟨hc0, hc1, hc2, hc3⟩
        · have HL := Lib.hid hc
          obtain ⟨r, hr⟩ : ∃ r, runL isWd (s.data.toList.drop p) = r := ⟨_, rfl⟩
          have hr1 : p + r = (p + 1) + runL isWd (s.data.toList.drop (p + 1)) := by have := run_step HLT.out (p := isWd) (by simp [isWd, hc]); omega
          have hrs : p + r ≤ s.size := by have := @run_le isWd s p; have := HLT.out; omega
          obtain ⟨T, hTk⟩ : ∃ T, (s.data.toList.drop p).take r = T := ⟨_, rfl⟩
          have hTl : T.length = r := by rw [← hTk, List.length_take, List.length_drop, ← str_len]; omega
          have hTs : (ByteArray.mk T.toArray).size = r := hTl
          have HK := Lib.hid hTk
          have hT2 := hT.out.trans (by rw [tk_lt HLT.out hc hr, hTk])
          have HT2 := Lib.hid hT2
          have HR1 := Lib.hid hr1
          clear hT hTk hT2 hr hr1 hc
          go_wp2_with (first
            | (go_at_call 13; (with_reducible refine Calls.cS (refLetterV HL) ?_); intros))
          go_loopw [7] (fun i wx => ∃ k : Nat, i = .int .i64 ((k : Nat) : Int) ∧ p + 1 ≤ k ∧ k ≤ s.size ∧ Bx wx wr.heap.size 36 [.int .i64 1, .string ⟨#[]⟩, .int .i64 ((l : Nat) : Int), .int .i64 ((c : Nat) : Int)] ∧ Rw wx u4 36 4 L.length (tkL L) (w.heap.size + 1) wr ∧ Kp w wx ∧ Bx wx w.heap.size 29 zE ∧ Kz wr wx ∧ Hid (p + r = k + runL isWd (s.data.toList.drop k))) (fun i _ => s.size - (intOf i).toNat)
          case atStart => exact ⟨p + 1, by go_num, by omega, by have := HLT.out; omega, Bx.re rfl, inferInstance, inferInstance, Bx.re rfl, inferInstance, HR1⟩
          case round =>
            obtain ⟨k, rfl, k1, k2, j1, j2, j3, j4, j5, hK⟩ := hrel
            clear hix HR1 HL
            by_cases klt : k < s.size
            · have hix := ix_str s k klt
              have HKL := Lib.hid klt
              have klt' : (k : Int) < s.size := by omega
              have ek : IntKind.i64.wrap ((k : Int) + 1) = (k : Int) + 1 := wr_in (by omega) (by omega)
              clear klt
              cases hA : isLetter (byteAt s k) with
              | true =>
                have HL := Lib.hid hA
                have HR : Hid (p + r = (k + 1) + runL isWd (s.data.toList.drop (k + 1))) := by show _ = _; rw [hK.out, run_step HKL.out (p := isWd) (by simp [isWd, hA])]; omega
                clear hK
                go_wp2_with (first
                  | (go_at_call 13; (with_reducible refine Calls.cS (refLetterV HL) ?_); intros)
                  | (go_at_call 20; (with_reducible refine Calls.cS (refDigitV HD) ?_); intros))
                go_roundw
                case rel => exact ⟨k + 1, by go_num, by omega, by have := HKL.out; omega, j1, j2, j3, j4, j5, HR⟩
                case measure => simp [intOf]; have := HKL.out; omega
              | false =>
                cases hB : isDg (byteAt s k) with
                | true =>
                  have HL := Lib.hid hA
                  have HD := Lib.hid hB
                  have HR : Hid (p + r = (k + 1) + runL isWd (s.data.toList.drop (k + 1))) := by show _ = _; rw [hK.out, run_step HKL.out (p := isWd) (by simp [isWd, hB])]; omega
                  clear hK
                  go_wp2_with (first
                    | (go_at_call 13; (with_reducible refine Calls.cS (refLetterV HL) ?_); intros)
                    | (go_at_call 20; (with_reducible refine Calls.cS (refDigitV HD) ?_); intros))
                  go_roundw
                  case rel => exact ⟨k + 1, by go_num, by omega, by have := HKL.out; omega, j1, j2, j3, j4, j5, HR⟩
                  case measure => simp [intOf]; have := HKL.out; omega
                | false =>
                  have HL := Lib.hid hA
                  have HD := Lib.hid hB
                  have HR : Hid (p + r = k) := by show _ = _; rw [hK.out, run_stop HKL.out (p := isWd) (by simp [isWd, hA, hB])]; rfl
                  have hK : 1 ≤ r := by have := HR.out; omega
                  have hsl := fun W => sl_str HK (k := k) HR.out.symm k2 W
                  by_cases hm : 24 < r
                  · have hm' : (24 : Int) < r := by omega
                    have HT := Lib.hid (HT2.out.trans (by rw [if_pos hm, Tr.pre_er]))
                    clear HT2 hm
                    go_wp2_with (first
                      | (go_at_call 13; (with_reducible refine Calls.cS (refLetterV HL) ?_); intros)
                      | (go_at_call 20; (with_reducible refine Calls.cS (refDigitV HD) ?_); intros))
                    refine region_cls (by kernel_rfl) [w.heap.size] (fun hHeld => ?_)
                    refine wpAnyH_take (i := 0) (v := ?z1) (by simp; rfl) (by kernel_rfl) (by kernel_rfl) (by kernel_rfl) (by exact fun _ _ _ h => h) (Or.inl ⟨by rfl, ?yz1⟩) hHeld ?_
                    case yz1 => (intro wx hSw; have hSx := Ex1.mk hSw; go_simp; (try with_reducible rfl))
                    try simp only [Act.put, List.setIfInBounds_toArray, List.set_cons_zero, List.set_cons_succ]
                    refine wpAnyH_take (i := 1) (v := ?z2) (by simp; rfl) (by kernel_rfl) (by kernel_rfl) (by kernel_rfl) (by exact fun _ _ _ h => h) (Or.inl ⟨by rfl, ?yz2⟩) hHeld ?_
                    case yz2 => (intro wx hSw; have hSx := Ex1.mk hSw; go_simp; (try with_reducible rfl))
                    try simp only [Act.put, List.setIfInBounds_toArray, List.set_cons_zero, List.set_cons_succ]
                    refine wpAnyH_take (i := 2) (v := ?z3) (by simp; rfl) (by kernel_rfl) (by kernel_rfl) (by kernel_rfl) (by exact fun _ _ _ h => h) (Or.inl ⟨by rfl, ?yz3⟩) hHeld ?_
                    case yz3 => (intro wx hSw; have hSx := Ex1.mk hSw; go_simp; (try with_reducible rfl))
                    try simp only [Act.put, List.setIfInBounds_toArray, List.set_cons_zero, List.set_cons_succ]
                    refine wpAnyH_take (i := 3) (v := ?z4) (by simp; rfl) (by kernel_rfl) (by kernel_rfl) (by kernel_rfl) (by exact fun _ _ _ h => h) (Or.inl ⟨by rfl, ?yz4⟩) hHeld ?_
                    case yz4 => (intro wx hSw; have hSx := Ex1.mk hSw; go_simp; (try with_reducible rfl))
                    try simp only [Act.put, List.setIfInBounds_toArray, List.set_cons_zero, List.set_cons_succ]
                    refine wpAnyH_take (i := 4) (v := ?z5) (by simp; rfl) (by kernel_rfl) (by kernel_rfl) (by kernel_rfl) (by exact fun _ _ _ h => h) (Or.inl ⟨by rfl, ?yz5⟩) hHeld ?_
                    case yz5 => (intro wx hSw; have hSx := Ex1.mk hSw; go_simp; (try with_reducible rfl))
                    try simp only [Act.put, List.setIfInBounds_toArray, List.set_cons_zero, List.set_cons_succ]
                    refine wpAnyH_take (i := 5) (v := ?z6) (by simp; rfl) (by kernel_rfl) (by kernel_rfl) (by kernel_rfl) (by exact fun _ _ _ h => h) (Or.inl ⟨by rfl, ?yz6⟩) hHeld ?_
                    case yz6 => (intro wx hSw; have hSx := Ex1.mk hSw; go_simp; (try with_reducible rfl))
                    try simp only [Act.put, List.setIfInBounds_toArray, List.set_cons_zero, List.set_cons_succ]
                    refine wpAnyH_take (i := 6) (v := ?z7) (by simp; rfl) (by kernel_rfl) (by kernel_rfl) (by kernel_rfl) (by exact fun _ _ _ h => h) (Or.inl ⟨by rfl, ?yz7⟩) hHeld ?_
                    case yz7 => (intro wx hSw; have hSx := Ex1.mk hSw; go_simp; (try with_reducible rfl))
                    try simp only [Act.put, List.setIfInBounds_toArray, List.set_cons_zero, List.set_cons_succ]
                    refine wpAnyH_take (i := 7) (v := ?z8) (by simp; rfl) (by kernel_rfl) (by kernel_rfl) (by kernel_rfl) (by exact fun _ _ _ h => h) (Or.inl ⟨by rfl, ?yz8⟩) hHeld ?_
                    case yz8 => (intro wx hSw; have hSx := Ex1.mk hSw; go_simp; (try with_reducible rfl))
                    try simp only [Act.put, List.setIfInBounds_toArray, List.set_cons_zero, List.set_cons_succ]
                    refine wpAnyH_ready (rs := [8]) (by kernel_rfl) (by simp) ?_
                    refine AllReadyH.cons (by simp; rfl) (fun K hK => ?_) AllReadyH.nil
                    go_simp
                    refine hK.out _ _ inferInstance ?_
                    clear hHeld hK K
                    intro hHeld
                    try simp only [Act.put, List.setIfInBounds_toArray, List.set_cons_zero, List.set_cons_succ]
                    refine wpAnyH_done (by kernel_rfl) ?_ _
                    clear hHeld
                    go_wp2_with fail
                    refine ret_tb rfl Tryd.underlying29 rfl (by kernel_rfl) rfl rfl rfl ?_
                    exact .inr ⟨2, l, c, T, HT.out, rfl, (inferInstance : Kp w _).out⟩
                  · have hm' : (r : Int) ≤ 24 := by omega
                    have HT := Lib.hid (HT2.out.trans (by rw [if_neg hm, Tr.pre_snoc]))
                    clear HT2 hm
                    go_wp2_with (first
                      | (go_at_call 13; (with_reducible refine Calls.cS (refLetterV HL) ?_); intros)
                      | (go_at_call 20; (with_reducible refine Calls.cS (refDigitV HD) ?_); intros)
                      | (at_builtin; go_loud (refine app_rw (v := u4) rfl (.tmp 147) (.tmp 149) 23 rfl Tryd.underlying23 info_tk rfl (by decide) (by decide) rfl rfl (by rfl) ?h1 (by omega) ?_); (case h1 => exact tkV_one ⟨_, _, _, _⟩); intro g2 c2 w2 i9 i10))
                    go_roundg (s.size + 1 - k)
                    case measure => have := HLT.out; have := hK; have := HR.out; omega
                    case rel => exact ⟨k, l, q, L ++ [⟨1, T, l, c⟩], by go_num, by go_num, by go_num, by omega, by omega, by omega, by omega, Rw.cast (Rw.here inferInstance) (by simp) (by rw [tkL_snoc]; rfl), inferInstance, Bx.re rfl, (by have := HC.out; have := HR.out; rw [show k - q + 1 = c + r by omega, ← HR.out]; exact HT), by first | omega | (simp; omega)⟩
            · have klt' : (s.size : Int) ≤ (k : Int) := by omega
              have HR : Hid (p + r = k) := by show _ = _; rw [hK.out, run_end (by omega)]; rfl
              have hK : 1 ≤ r := by have := HR.out; omega
              clear klt
              have hsl := fun W => sl_str HK (k := k) HR.out.symm k2 W
              by_cases hm : 24 < r
              · have hm' : (24 : Int) < r := by omega
                have HT := Lib.hid (HT2.out.trans (by rw [if_pos hm, Tr.pre_er]))
                clear HT2 hm
                go_wp2_with fail
                refine region_cls (by kernel_rfl) [w.heap.size] (fun hHeld => ?_)
                refine wpAnyH_take (i := 0) (v := ?z9) (by simp; rfl) (by kernel_rfl) (by kernel_rfl) (by kernel_rfl) (by exact fun _ _ _ h => h) (Or.inl ⟨by rfl, ?yz9⟩) hHeld ?_
                case yz9 => (intro wx hSw; have hSx := Ex1.mk hSw; go_simp; (try with_reducible rfl))
                try simp only [Act.put, List.setIfInBounds_toArray, List.set_cons_zero, List.set_cons_succ]
                refine wpAnyH_take (i := 1) (v := ?z10) (by simp; rfl) (by kernel_rfl) (by kernel_rfl) (by kernel_rfl) (by exact fun _ _ _ h => h) (Or.inl ⟨by rfl, ?yz10⟩) hHeld ?_
                case yz10 => (intro wx hSw; have hSx := Ex1.mk hSw; go_simp; (try with_reducible rfl))
                try simp only [Act.put, List.setIfInBounds_toArray, List.set_cons_zero, List.set_cons_succ]
                refine wpAnyH_take (i := 2) (v := ?z11) (by simp; rfl) (by kernel_rfl) (by kernel_rfl) (by kernel_rfl) (by exact fun _ _ _ h => h) (Or.inl ⟨by rfl, ?yz11⟩) hHeld ?_
                case yz11 => (intro wx hSw; have hSx := Ex1.mk hSw; go_simp; (try with_reducible rfl))
                try simp only [Act.put, List.setIfInBounds_toArray, List.set_cons_zero, List.set_cons_succ]
                refine wpAnyH_take (i := 3) (v := ?z12) (by simp; rfl) (by kernel_rfl) (by kernel_rfl) (by kernel_rfl) (by exact fun _ _ _ h => h) (Or.inl ⟨by rfl, ?yz12⟩) hHeld ?_
                case yz12 => (intro wx hSw; have hSx := Ex1.mk hSw; go_simp; (try with_reducible rfl))
                try simp only [Act.put, List.setIfInBounds_toArray, List.set_cons_zero, List.set_cons_succ]
                refine wpAnyH_take (i := 4) (v := ?z13) (by simp; rfl) (by kernel_rfl) (by kernel_rfl) (by kernel_rfl) (by exact fun _ _ _ h => h) (Or.inl ⟨by rfl, ?yz13⟩) hHeld ?_
                case yz13 => (intro wx hSw; have hSx := Ex1.mk hSw; go_simp; (try with_reducible rfl))
                try simp only [Act.put, List.setIfInBounds_toArray, List.set_cons_zero, List.set_cons_succ]
                refine wpAnyH_take (i := 5) (v := ?z14) (by simp; rfl) (by kernel_rfl) (by kernel_rfl) (by kernel_rfl) (by exact fun _ _ _ h => h) (Or.inl ⟨by rfl, ?yz14⟩) hHeld ?_
                case yz14 => (intro wx hSw; have hSx := Ex1.mk hSw; go_simp; (try with_reducible rfl))
                try simp only [Act.put, List.setIfInBounds_toArray, List.set_cons_zero, List.set_cons_succ]
                refine wpAnyH_take (i := 6) (v := ?z15) (by simp; rfl) (by kernel_rfl) (by kernel_rfl) (by kernel_rfl) (by exact fun _ _ _ h => h) (Or.inl ⟨by rfl, ?yz15⟩) hHeld ?_
                case yz15 => (intro wx hSw; have hSx := Ex1.mk hSw; go_simp; (try with_reducible rfl))
                try simp only [Act.put, List.setIfInBounds_toArray, List.set_cons_zero, List.set_cons_succ]
                refine wpAnyH_take (i := 7) (v := ?z16) (by simp; rfl) (by kernel_rfl) (by kernel_rfl) (by kernel_rfl) (by exact fun _ _ _ h => h) (Or.inl ⟨by rfl, ?yz16⟩) hHeld ?_
                case yz16 => (intro wx hSw; have hSx := Ex1.mk hSw; go_simp; (try with_reducible rfl))
                try simp only [Act.put, List.setIfInBounds_toArray, List.set_cons_zero, List.set_cons_succ]
                refine wpAnyH_ready (rs := [8]) (by kernel_rfl) (by simp) ?_
                refine AllReadyH.cons (by simp; rfl) (fun K hK => ?_) AllReadyH.nil
                go_simp
                refine hK.out _ _ inferInstance ?_
                clear hHeld hK K
                intro hHeld
                try simp only [Act.put, List.setIfInBounds_toArray, List.set_cons_zero, List.set_cons_succ]
                refine wpAnyH_done (by kernel_rfl) ?_ _
                clear hHeld
                go_wp2_with fail
                refine ret_tb rfl Tryd.underlying29 rfl (by kernel_rfl) rfl rfl rfl ?_
                exact .inr ⟨2, l, c, T, HT.out, rfl, (inferInstance : Kp w _).out⟩
              · have hm' : (r : Int) ≤ 24 := by omega
                have HT := Lib.hid (HT2.out.trans (by rw [if_neg hm, Tr.pre_snoc]))
                clear HT2 hm
                go_wp2_with (first
                  | (at_builtin; go_loud (refine app_rw (v := u4) rfl (.tmp 147) (.tmp 149) 23 rfl Tryd.underlying23 info_tk rfl (by decide) (by decide) rfl rfl (by rfl) ?h1 (by omega) ?_); (case h1 => exact tkV_one ⟨_, _, _, _⟩); intro g2 c2 w2 i9 i10))
                go_roundg (s.size + 1 - k)
                case measure => have := HLT.out; have := hK; have := HR.out; omega
                case rel => exact ⟨k, l, q, L ++ [⟨1, T, l, c⟩], by go_num, by go_num, by go_num, by omega, by omega, by omega, by omega, Rw.cast (Rw.here inferInstance) (by simp) (by rw [tkL_snoc]; rfl), inferInstance, Bx.re rfl, (by have := HC.out; have := HR.out; rw [show k - q + 1 = c + r by omega, ← HR.out]; exact HT), by first | omega | (simp; omega)⟩
        · have HL := Lib.hid hc1
          have HD := Lib.hid hc
          obtain ⟨r, hr⟩ : ∃ r, runL isDg (s.data.toList.drop p) = r := ⟨_, rfl⟩
          have hr1 : p + r = (p + 1) + runL isDg (s.data.toList.drop (p + 1)) := by have := run_step HLT.out (p := isDg) (by exact hc); omega
          have hrs : p + r ≤ s.size := by have := @run_le isDg s p; have := HLT.out; omega
          obtain ⟨T, hTk⟩ : ∃ T, (s.data.toList.drop p).take r = T := ⟨_, rfl⟩
          have hTl : T.length = r := by rw [← hTk, List.length_take, List.length_drop, ← str_len]; omega
          have hTs : (ByteArray.mk T.toArray).size = r := hTl
          have HK := Lib.hid hTk
          have hT2 := hT.out.trans (by rw [tk_dg HLT.out hc hr, hTk])
          have HT2 := Lib.hid hT2
          have HR1 := Lib.hid hr1
          clear hT hTk hT2 hr hr1 hc hc1
          go_wp2_with (first
            | (go_at_call 13; (with_reducible refine Calls.cS (refLetterV HL) ?_); intros)
            | (go_at_call 20; (with_reducible refine Calls.cS (refDigitV HD) ?_); intros))
          go_loopw [7] (fun i wx => ∃ k : Nat, i = .int .i64 ((k : Nat) : Int) ∧ p + 1 ≤ k ∧ k ≤ s.size ∧ Bx wx wr.heap.size 36 [.int .i64 2, .string ⟨#[]⟩, .int .i64 ((l : Nat) : Int), .int .i64 ((c : Nat) : Int)] ∧ Rw wx u4 36 4 L.length (tkL L) (w.heap.size + 1) wr ∧ Kp w wx ∧ Bx wx w.heap.size 29 zE ∧ Kz wr wx ∧ Hid (p + r = k + runL isDg (s.data.toList.drop k))) (fun i _ => s.size - (intOf i).toNat)
          case atStart => exact ⟨p + 1, by go_num, by omega, by have := HLT.out; omega, Bx.re rfl, inferInstance, inferInstance, Bx.re rfl, inferInstance, HR1⟩
          case round =>
            obtain ⟨k, rfl, k1, k2, j1, j2, j3, j4, j5, hK⟩ := hrel
            clear hix HR1 HL HD
            by_cases klt : k < s.size
            · have hix := ix_str s k klt
              have HKL := Lib.hid klt
              have klt' : (k : Int) < s.size := by omega
              have ek : IntKind.i64.wrap ((k : Int) + 1) = (k : Int) + 1 := wr_in (by omega) (by omega)
              clear klt
              cases hB : isDg (byteAt s k) with
              | true =>
                have HD := Lib.hid hB
                have HR : Hid (p + r = (k + 1) + runL isDg (s.data.toList.drop (k + 1))) := by show _ = _; rw [hK.out, run_step HKL.out (p := isDg) (by exact hB)]; omega
                clear hK
                go_wp2_with (first
                  | (go_at_call 20; (with_reducible refine Calls.cS (refDigitV HD) ?_); intros))
                go_roundw
                case rel => exact ⟨k + 1, by go_num, by omega, by have := HKL.out; omega, j1, j2, j3, j4, j5, HR⟩
                case measure => simp [intOf]; have := HKL.out; omega
              | false =>
                have HD := Lib.hid hB
                have HR : Hid (p + r = k) := by show _ = _; rw [hK.out, run_stop HKL.out (p := isDg) (by exact hB)]; rfl
                have hK : 1 ≤ r := by have := HR.out; omega
                have hsl := fun W => sl_str HK (k := k) HR.out.symm k2 W
                by_cases hm : 4096 < r
                · have hm' : (4096 : Int) < r := by omega
                  have HT := Lib.hid (HT2.out.trans (by rw [if_pos hm, Tr.pre_er]))
                  clear HT2 hm
                  go_wp2_with (first
                    | (go_at_call 20; (with_reducible refine Calls.cS (refDigitV HD) ?_); intros))
                  refine region_cls (by kernel_rfl) [w.heap.size] (fun hHeld => ?_)
                  refine wpAnyH_take (i := 0) (v := ?z17) (by simp; rfl) (by kernel_rfl) (by kernel_rfl) (by kernel_rfl) (by exact fun _ _ _ h => h) (Or.inl ⟨by rfl, ?yz17⟩) hHeld ?_
                  case yz17 => (intro wx hSw; have hSx := Ex1.mk hSw; go_simp; (try with_reducible rfl))
                  try simp only [Act.put, List.setIfInBounds_toArray, List.set_cons_zero, List.set_cons_succ]
                  refine wpAnyH_take (i := 1) (v := ?z18) (by simp; rfl) (by kernel_rfl) (by kernel_rfl) (by kernel_rfl) (by exact fun _ _ _ h => h) (Or.inl ⟨by rfl, ?yz18⟩) hHeld ?_
                  case yz18 => (intro wx hSw; have hSx := Ex1.mk hSw; go_simp; (try with_reducible rfl))
                  try simp only [Act.put, List.setIfInBounds_toArray, List.set_cons_zero, List.set_cons_succ]
                  refine wpAnyH_take (i := 2) (v := ?z19) (by simp; rfl) (by kernel_rfl) (by kernel_rfl) (by kernel_rfl) (by exact fun _ _ _ h => h) (Or.inl ⟨by rfl, ?yz19⟩) hHeld ?_
                  case yz19 => (intro wx hSw; have hSx := Ex1.mk hSw; go_simp; (try with_reducible rfl))
                  try simp only [Act.put, List.setIfInBounds_toArray, List.set_cons_zero, List.set_cons_succ]
                  refine wpAnyH_take (i := 3) (v := ?z20) (by simp; rfl) (by kernel_rfl) (by kernel_rfl) (by kernel_rfl) (by exact fun _ _ _ h => h) (Or.inl ⟨by rfl, ?yz20⟩) hHeld ?_
                  case yz20 => (intro wx hSw; have hSx := Ex1.mk hSw; go_simp; (try with_reducible rfl))
                  try simp only [Act.put, List.setIfInBounds_toArray, List.set_cons_zero, List.set_cons_succ]
                  refine wpAnyH_take (i := 4) (v := ?z21) (by simp; rfl) (by kernel_rfl) (by kernel_rfl) (by kernel_rfl) (by exact fun _ _ _ h => h) (Or.inl ⟨by rfl, ?yz21⟩) hHeld ?_
                  case yz21 => (intro wx hSw; have hSx := Ex1.mk hSw; go_simp; (try with_reducible rfl))
                  try simp only [Act.put, List.setIfInBounds_toArray, List.set_cons_zero, List.set_cons_succ]
                  refine wpAnyH_take (i := 5) (v := ?z22) (by simp; rfl) (by kernel_rfl) (by kernel_rfl) (by kernel_rfl) (by exact fun _ _ _ h => h) (Or.inl ⟨by rfl, ?yz22⟩) hHeld ?_
                  case yz22 => (intro wx hSw; have hSx := Ex1.mk hSw; go_simp; (try with_reducible rfl))
                  try simp only [Act.put, List.setIfInBounds_toArray, List.set_cons_zero, List.set_cons_succ]
                  refine wpAnyH_take (i := 6) (v := ?z23) (by simp; rfl) (by kernel_rfl) (by kernel_rfl) (by kernel_rfl) (by exact fun _ _ _ h => h) (Or.inl ⟨by rfl, ?yz23⟩) hHeld ?_
                  case yz23 => (intro wx hSw; have hSx := Ex1.mk hSw; go_simp; (try with_reducible rfl))
                  try simp only [Act.put, List.setIfInBounds_toArray, List.set_cons_zero, List.set_cons_succ]
                  refine wpAnyH_take (i := 7) (v := ?z24) (by simp; rfl) (by kernel_rfl) (by kernel_rfl) (by kernel_rfl) (by exact fun _ _ _ h => h) (Or.inl ⟨by rfl, ?yz24⟩) hHeld ?_
                  case yz24 => (intro wx hSw; have hSx := Ex1.mk hSw; go_simp; (try with_reducible rfl))
                  try simp only [Act.put, List.setIfInBounds_toArray, List.set_cons_zero, List.set_cons_succ]
                  refine wpAnyH_ready (rs := [8]) (by kernel_rfl) (by simp) ?_
                  refine AllReadyH.cons (by simp; rfl) (fun K hK => ?_) AllReadyH.nil
                  go_simp
                  refine hK.out _ _ inferInstance ?_
                  clear hHeld hK K
                  intro hHeld
                  try simp only [Act.put, List.setIfInBounds_toArray, List.set_cons_zero, List.set_cons_succ]
                  refine wpAnyH_done (by kernel_rfl) ?_ _
                  clear hHeld
                  go_wp2_with fail
                  refine ret_tb rfl Tryd.underlying29 rfl (by kernel_rfl) rfl rfl rfl ?_
                  exact .inr ⟨2, l, c, T, HT.out, rfl, (inferInstance : Kp w _).out⟩
                · have hm' : (r : Int) ≤ 4096 := by omega
                  have HT := Lib.hid (HT2.out.trans (by rw [if_neg hm, Tr.pre_snoc]))
                  clear HT2 hm
                  go_wp2_with (first
                    | (go_at_call 20; (with_reducible refine Calls.cS (refDigitV HD) ?_); intros)
                    | (at_builtin; go_loud (refine app_rw (v := u4) rfl (.tmp 147) (.tmp 149) 23 rfl Tryd.underlying23 info_tk rfl (by decide) (by decide) rfl rfl (by rfl) ?h1 (by omega) ?_); (case h1 => exact tkV_one ⟨_, _, _, _⟩); intro g2 c2 w2 i9 i10))
                  go_roundg (s.size + 1 - k)
                  case measure => have := HLT.out; have := hK; have := HR.out; omega
                  case rel => exact ⟨k, l, q, L ++ [⟨2, T, l, c⟩], by go_num, by go_num, by go_num, by omega, by omega, by omega, by omega, Rw.cast (Rw.here inferInstance) (by simp) (by rw [tkL_snoc]; rfl), inferInstance, Bx.re rfl, (by have := HC.out; have := HR.out; rw [show k - q + 1 = c + r by omega, ← HR.out]; exact HT), by first | omega | (simp; omega)⟩
            · have klt' : (s.size : Int) ≤ (k : Int) := by omega
              have HR : Hid (p + r = k) := by show _ = _; rw [hK.out, run_end (by omega)]; rfl
              have hK : 1 ≤ r := by have := HR.out; omega
              clear klt
              have hsl := fun W => sl_str HK (k := k) HR.out.symm k2 W
              by_cases hm : 4096 < r
              · have hm' : (4096 : Int) < r := by omega
                have HT := Lib.hid (HT2.out.trans (by rw [if_pos hm, Tr.pre_er]))
                clear HT2 hm
                go_wp2_with fail
                refine region_cls (by kernel_rfl) [w.heap.size] (fun hHeld => ?_)
                refine wpAnyH_take (i := 0) (v := ?z25) (by simp; rfl) (by kernel_rfl) (by kernel_rfl) (by kernel_rfl) (by exact fun _ _ _ h => h) (Or.inl ⟨by rfl, ?yz25⟩) hHeld ?_
                case yz25 => (intro wx hSw; have hSx := Ex1.mk hSw; go_simp; (try with_reducible rfl))
                try simp only [Act.put, List.setIfInBounds_toArray, List.set_cons_zero, List.set_cons_succ]
                refine wpAnyH_take (i := 1) (v := ?z26) (by simp; rfl) (by kernel_rfl) (by kernel_rfl) (by kernel_rfl) (by exact fun _ _ _ h => h) (Or.inl ⟨by rfl, ?yz26⟩) hHeld ?_
                case yz26 => (intro wx hSw; have hSx := Ex1.mk hSw; go_simp; (try with_reducible rfl))
                try simp only [Act.put, List.setIfInBounds_toArray, List.set_cons_zero, List.set_cons_succ]
                refine wpAnyH_take (i := 2) (v := ?z27) (by simp; rfl) (by kernel_rfl) (by kernel_rfl) (by kernel_rfl) (by exact fun _ _ _ h => h) (Or.inl ⟨by rfl, ?yz27⟩) hHeld ?_
                case yz27 => (intro wx hSw; have hSx := Ex1.mk hSw; go_simp; (try with_reducible rfl))
                try simp only [Act.put, List.setIfInBounds_toArray, List.set_cons_zero, List.set_cons_succ]
                refine wpAnyH_take (i := 3) (v := ?z28) (by simp; rfl) (by kernel_rfl) (by kernel_rfl) (by kernel_rfl) (by exact fun _ _ _ h => h) (Or.inl ⟨by rfl, ?yz28⟩) hHeld ?_
                case yz28 => (intro wx hSw; have hSx := Ex1.mk hSw; go_simp; (try with_reducible rfl))
                try simp only [Act.put, List.setIfInBounds_toArray, List.set_cons_zero, List.set_cons_succ]
                refine wpAnyH_take (i := 4) (v := ?z29) (by simp; rfl) (by kernel_rfl) (by kernel_rfl) (by kernel_rfl) (by exact fun _ _ _ h => h) (Or.inl ⟨by rfl, ?yz29⟩) hHeld ?_
                case yz29 => (intro wx hSw; have hSx := Ex1.mk hSw; go_simp; (try with_reducible rfl))
                try simp only [Act.put, List.setIfInBounds_toArray, List.set_cons_zero, List.set_cons_succ]
                refine wpAnyH_take (i := 5) (v := ?z30) (by simp; rfl) (by kernel_rfl) (by kernel_rfl) (by kernel_rfl) (by exact fun _ _ _ h => h) (Or.inl ⟨by rfl, ?yz30⟩) hHeld ?_
                case yz30 => (intro wx hSw; have hSx := Ex1.mk hSw; go_simp; (try with_reducible rfl))
                try simp only [Act.put, List.setIfInBounds_toArray, List.set_cons_zero, List.set_cons_succ]
                refine wpAnyH_take (i := 6) (v := ?z31) (by simp; rfl) (by kernel_rfl) (by kernel_rfl) (by kernel_rfl) (by exact fun _ _ _ h => h) (Or.inl ⟨by rfl, ?yz31⟩) hHeld ?_
                case yz31 => (intro wx hSw; have hSx := Ex1.mk hSw; go_simp; (try with_reducible rfl))
                try simp only [Act.put, List.setIfInBounds_toArray, List.set_cons_zero, List.set_cons_succ]
                refine wpAnyH_take (i := 7) (v := ?z32) (by simp; rfl) (by kernel_rfl) (by kernel_rfl) (by kernel_rfl) (by exact fun _ _ _ h => h) (Or.inl ⟨by rfl, ?yz32⟩) hHeld ?_
                case yz32 => (intro wx hSw; have hSx := Ex1.mk hSw; go_simp; (try with_reducible rfl))
                try simp only [Act.put, List.setIfInBounds_toArray, List.set_cons_zero, List.set_cons_succ]
                refine wpAnyH_ready (rs := [8]) (by kernel_rfl) (by simp) ?_
                refine AllReadyH.cons (by simp; rfl) (fun K hK => ?_) AllReadyH.nil
                go_simp
                refine hK.out _ _ inferInstance ?_
                clear hHeld hK K
                intro hHeld
                try simp only [Act.put, List.setIfInBounds_toArray, List.set_cons_zero, List.set_cons_succ]
                refine wpAnyH_done (by kernel_rfl) ?_ _
                clear hHeld
                go_wp2_with fail
                refine ret_tb rfl Tryd.underlying29 rfl (by kernel_rfl) rfl rfl rfl ?_
                exact .inr ⟨2, l, c, T, HT.out, rfl, (inferInstance : Kp w _).out⟩
              · have hm' : (r : Int) ≤ 4096 := by omega
                have HT := Lib.hid (HT2.out.trans (by rw [if_neg hm, Tr.pre_snoc]))
                clear HT2 hm
                go_wp2_with (first
                  | (at_builtin; go_loud (refine app_rw (v := u4) rfl (.tmp 147) (.tmp 149) 23 rfl Tryd.underlying23 info_tk rfl (by decide) (by decide) rfl rfl (by rfl) ?h1 (by omega) ?_); (case h1 => exact tkV_one ⟨_, _, _, _⟩); intro g2 c2 w2 i9 i10))
                go_roundg (s.size + 1 - k)
                case measure => have := HLT.out; have := hK; have := HR.out; omega
                case rel => exact ⟨k, l, q, L ++ [⟨2, T, l, c⟩], by go_num, by go_num, by go_num, by omega, by omega, by omega, by omega, Rw.cast (Rw.here inferInstance) (by simp) (by rw [tkL_snoc]; rfl), inferInstance, Bx.re rfl, (by have := HC.out; have := HR.out; rw [show k - q + 1 = c + r by omega, ← HR.out]; exact HT), by first | omega | (simp; omega)⟩
        · have HL := Lib.hid hc1
          have HD := Lib.hid hc2
          have HS := Lib.hid hc
          obtain ⟨T, hTk⟩ : ∃ T, (s.data.toList.drop p).take 1 = T := ⟨_, rfl⟩
          have HK := Lib.hid hTk
          have HT := Lib.hid (hT.out.trans (by rw [tk_sg HLT.out hc, hTk, Tr.pre_snoc]))
          have hTs : (ByteArray.mk T.toArray).size = 1 := by rw [← hTk, take_one HLT.out]; rfl
          have hs1 : (1 : Int) ≤ s.size := by omega
          have hsl : ∀ W : World, (Instr.slice 9 (.string s) (some (.int .i64 (p : Int))) (some (.int .i64 ((p : Int) + 1))) none).run Tryd.prog W = .ok (strV T) W := fun W => by
            have h := sl_str HK (k := p + 1) rfl HLT.out W
            rw [show ((p + 1 : Nat) : Int) = (p : Int) + 1 by omega] at h; exact h
          clear hT hTk hc hc1 hc2
          go_wp2_with (first
            | (go_at_call 13; (with_reducible refine Calls.cS (refLetterV HL) ?_); intros)
            | (go_at_call 20; (with_reducible refine Calls.cS (refDigitV HD) ?_); intros)
            | (go_at_call 15; (with_reducible refine Calls.cS (refSignV HS) ?_); intros)
            | (at_builtin; go_loud (refine app_rw (v := u4) rfl (.tmp 147) (.tmp 149) 23 rfl Tryd.underlying23 info_tk rfl (by decide) (by decide) rfl rfl (by rfl) ?h1 (by omega) ?_); (case h1 => exact tkV_one ⟨_, _, _, _⟩); intro g2 c2 w2 i9 i10))
          go_roundg (s.size - p)
          case measure => have := HLT.out; omega
          case rel => exact ⟨p + 1, l, q, L ++ [⟨3, T, l, c⟩], by go_num, by go_num, by go_num, by omega, by omega, by omega, by omega, Rw.cast (Rw.here inferInstance) (by simp) (by rw [tkL_snoc]; rfl), inferInstance, Bx.re rfl, (by have := HC.out; rw [show p + 1 - q + 1 = c + 1 by omega]; exact HT), by first | omega | (simp; omega)⟩
        · have HL := Lib.hid hc1
          have HD := Lib.hid hc2
          have HS := Lib.hid hc3
          obtain ⟨T, hTk⟩ : ∃ T, (s.data.toList.drop p).take 1 = T := ⟨_, rfl⟩
          have HK := Lib.hid hTk
          have HT := Lib.hid (hT.out.trans (by rw [tk_ot HLT.out HN.out.1 hc0 HN.out.2 hc1 hc2 hc3, hTk, Tr.pre_er]))
          have hsl : ∀ W : World, (Instr.slice 9 (.string s) (some (.int .i64 (p : Int))) (some (.int .i64 ((p : Int) + 1))) none).run Tryd.prog W = .ok (strV T) W := fun W => by
            have h := sl_str HK (k := p + 1) rfl HLT.out W
            rw [show ((p + 1 : Nat) : Int) = (p : Int) + 1 by omega] at h; exact h
          clear hT hTk hc0 hc1 hc2 hc3
          go_wp2_with (first
            | (go_at_call 13; (with_reducible refine Calls.cS (refLetterV HL) ?_); intros)
            | (go_at_call 20; (with_reducible refine Calls.cS (refDigitV HD) ?_); intros)
            | (go_at_call 15; (with_reducible refine Calls.cS (refSignV HS) ?_); intros))
          refine region_cls (by kernel_rfl) [w.heap.size] (fun hHeld => ?_)
          refine wpAnyH_take (i := 0) (v := ?z33) (by simp; rfl) (by kernel_rfl) (by kernel_rfl) (by kernel_rfl) (by exact fun _ _ _ h => h) (Or.inl ⟨by rfl, ?yz33⟩) hHeld ?_
          case yz33 => (intro wx hSw; have hSx := Ex1.mk hSw; go_simp; (try with_reducible rfl))
          try simp only [Act.put, List.setIfInBounds_toArray, List.set_cons_zero, List.set_cons_succ]
          refine wpAnyH_take (i := 1) (v := ?z34) (by simp; rfl) (by kernel_rfl) (by kernel_rfl) (by kernel_rfl) (by exact fun _ _ _ h => h) (Or.inl ⟨by rfl, ?yz34⟩) hHeld ?_
          case yz34 => (intro wx hSw; have hSx := Ex1.mk hSw; go_simp; (try with_reducible rfl))
          try simp only [Act.put, List.setIfInBounds_toArray, List.set_cons_zero, List.set_cons_succ]
          refine wpAnyH_take (i := 2) (v := ?z35) (by simp; rfl) (by kernel_rfl) (by kernel_rfl) (by kernel_rfl) (by exact fun _ _ _ h => h) (Or.inl ⟨by rfl, ?yz35⟩) hHeld ?_
          case yz35 => (intro wx hSw; have hSx := Ex1.mk hSw; go_simp; (try with_reducible rfl))
          try simp only [Act.put, List.setIfInBounds_toArray, List.set_cons_zero, List.set_cons_succ]
          refine wpAnyH_take (i := 3) (v := ?z36) (by simp; rfl) (by kernel_rfl) (by kernel_rfl) (by kernel_rfl) (by exact fun _ _ _ h => h) (Or.inl ⟨by rfl, ?yz36⟩) hHeld ?_
          case yz36 => (intro wx hSw; have hSx := Ex1.mk hSw; go_simp; (try with_reducible rfl))
          try simp only [Act.put, List.setIfInBounds_toArray, List.set_cons_zero, List.set_cons_succ]
          refine wpAnyH_take (i := 4) (v := ?z37) (by simp; rfl) (by kernel_rfl) (by kernel_rfl) (by kernel_rfl) (by exact fun _ _ _ h => h) (Or.inl ⟨by rfl, ?yz37⟩) hHeld ?_
          case yz37 => (intro wx hSw; have hSx := Ex1.mk hSw; go_simp; (try with_reducible rfl))
          try simp only [Act.put, List.setIfInBounds_toArray, List.set_cons_zero, List.set_cons_succ]
          refine wpAnyH_take (i := 5) (v := ?z38) (by simp; rfl) (by kernel_rfl) (by kernel_rfl) (by kernel_rfl) (by exact fun _ _ _ h => h) (Or.inl ⟨by rfl, ?yz38⟩) hHeld ?_
          case yz38 => (intro wx hSw; have hSx := Ex1.mk hSw; go_simp; (try with_reducible rfl))
          try simp only [Act.put, List.setIfInBounds_toArray, List.set_cons_zero, List.set_cons_succ]
          refine wpAnyH_take (i := 6) (v := ?z39) (by simp; rfl) (by kernel_rfl) (by kernel_rfl) (by kernel_rfl) (by exact fun _ _ _ h => h) (Or.inl ⟨by rfl, ?yz39⟩) hHeld ?_
          case yz39 => (intro wx hSw; have hSx := Ex1.mk hSw; go_simp; (try with_reducible rfl))
          try simp only [Act.put, List.setIfInBounds_toArray, List.set_cons_zero, List.set_cons_succ]
          refine wpAnyH_take (i := 7) (v := ?z40) (by simp; rfl) (by kernel_rfl) (by kernel_rfl) (by kernel_rfl) (by exact fun _ _ _ h => h) (Or.inl ⟨by rfl, ?yz40⟩) hHeld ?_
          case yz40 => (intro wx hSw; have hSx := Ex1.mk hSw; go_simp; (try with_reducible rfl))
          try simp only [Act.put, List.setIfInBounds_toArray, List.set_cons_zero, List.set_cons_succ]
          refine wpAnyH_take (i := 8) (v := ?z41) (by simp; rfl) (by kernel_rfl) (by kernel_rfl) (by kernel_rfl) (by exact fun _ _ _ h => h) (Or.inl ⟨by rfl, ?yz41⟩) hHeld ?_
          case yz41 => (intro wx hSw; have hSx := Ex1.mk hSw; go_simp; (try with_reducible rfl))
          try simp only [Act.put, List.setIfInBounds_toArray, List.set_cons_zero, List.set_cons_succ]
          refine wpAnyH_take (i := 9) (v := ?z42) (by simp; rfl) (by kernel_rfl) (by kernel_rfl) (by kernel_rfl) (by exact fun _ _ _ h => h) (Or.inl ⟨by rfl, ?yz42⟩) hHeld ?_
          case yz42 => (intro wx hSw; have hSx := Ex1.mk hSw; go_simp; (try with_reducible rfl))
          try simp only [Act.put, List.setIfInBounds_toArray, List.set_cons_zero, List.set_cons_succ]
          refine wpAnyH_take (i := 10) (v := ?z43) (by simp; rfl) (by kernel_rfl) (by kernel_rfl) (by kernel_rfl) (by exact fun _ _ _ h => h) (Or.inl ⟨by rfl, ?yz43⟩) hHeld ?_
          case yz43 => (intro wx hSw; have hSx := Ex1.mk hSw; go_simp; (try with_reducible rfl))
          try simp only [Act.put, List.setIfInBounds_toArray, List.set_cons_zero, List.set_cons_succ]
          refine wpAnyH_ready (rs := [11]) (by kernel_rfl) (by simp) ?_
          refine AllReadyH.cons (by simp; rfl) (fun K hK => ?_) AllReadyH.nil
          go_simp
          refine hK.out _ _ inferInstance ?_
          clear hHeld hK K
          intro hHeld
          try simp only [Act.put, List.setIfInBounds_toArray, List.set_cons_zero, List.set_cons_succ]
          refine wpAnyH_done (by kernel_rfl) ?_ _
          clear hHeld
          go_wp2_with fail
          refine ret_tb rfl Tryd.underlying29 rfl (by kernel_rfl) rfl rfl rfl ?_
          exact .inr ⟨1, l, c, T, HT.out, rfl, (inferInstance : Kp w _).out⟩
    · have he : p = s.size := by omega
      have hlt' : (s.size : Int) ≤ (p : Int) := by omega
      obtain ⟨c, hcc⟩ : ∃ c, p - q + 1 = c := ⟨_, rfl⟩
      have e1 : IntKind.i64.wrap ((s.size : Int) - (q : Int)) = (s.size : Int) - (q : Int) := wr_in (by omega) (by omega)
      have e2 : IntKind.i64.wrap ((s.size : Int) - (q : Int) + 1) = (c : Int) := by rw [wr_in (by omega) (by omega)]; omega
      have HT := Lib.hid (hT.out.trans (by rw [hcc, he, tk_end, Tr.pre_ok]))
      clear hT hlt he hcc
      go_wp2_with (first
        | (at_builtin; go_loud (refine app_rw (v := u4) rfl (.tmp 151) (.tmp 159) 23 rfl Tryd.underlying23 info_tk rfl (by decide) (by decide) rfl rfl (by rfl) ?h1 (by omega) ?_); (case h1 => exact tkV_one ⟨_, _, _, _⟩); intro g2 c2 w2 i9 i10))
      refine ret_tb rfl Tryd.underlying29 rfl (by kernel_rfl) rfl rfl rfl ?_
      exact .inl ⟨L ++ [⟨0, [], l, c⟩], _, _, _, HT.out, rfl, Rw.ct inferInstance (by simp) (by rw [tkL_snoc]; rfl), (inferInstance : Kp w _).out⟩
end Go.Proofs.YtlameeijogdckaaDoor
