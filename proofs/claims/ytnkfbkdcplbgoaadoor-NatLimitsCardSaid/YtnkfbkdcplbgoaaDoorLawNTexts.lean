/-
  The law NatTexts.
-/
import Derived.Test.YtnkfbkdcplbgoaaDoorRead
import Derived.Test.YtnkfbkdcplbgoaaDoorLaid2
import Derived.Test.YtnkfbkdcplbgoaaDoorDivMod
import Derived.Test.YtnkfbkdcplbgoaaDoorSmall
namespace Go.Proofs.YtnkfbkdcplbgoaaDoor
open Go.RowKit

theorem pk2 {l : List UInt8} (h : pKind l = 2) : 4096 < l.length := by
  unfold pKind at h
  split at h
  · exact absurd h (by decide)
  · split at h
    · assumption
    · exact absurd h (by decide)
/-- What ref01.ReadN returns, its kind known. -/
def ReadKRet (w : World) (v k : Nat) (e : Ending) (w' : World) : Prop := ∃ a n c, e = .returned (.tuple #[.slice a n c, .int .i64 ((k : Nat) : Int)]) ∧ CN w' (.slice a n c) v 4097 ∧ Below w.heap.size w w'
theorem readKC {s : ByteArray} {w : World} (hsz : s.size ≤ 1000000000) {v k : Nat} (hk : pKind s.data.toList = k) (hv : (if k = 0 then bval s.data.toList else 0) = v) : Calls Tryd.prog 16 #[.string s] w (ReadKRet w v k) := by
  subst hk; subst hv
  exact readNC s w hsz
theorem Calls.kReadK {P : Program} {f : FuncId} {args : Array Value} {w : World} {v k : Nat} {K : Ending → World → Prop} (h : Calls P f args w (ReadKRet w v k))
    (hK : ∀ w' [Kp1 w w'] a n c [CN w' (.slice a n c) v 4097], K (.returned (.tuple #[.slice a n c, .int .i64 ((k : Nat) : Int)])) w') : Calls P f args w K := by
  refine h.mono ?_
  rintro e w' ⟨a, n, c, rfl, hx, hb⟩
  exact @hK w' ⟨hb⟩ a n c hx
theorem same01C {w : World} {a1 a2 : Option Addr} {l1 c1 l2 c2 m k1 k2 : Nat} [h1 : CN w (.slice a1 l1 c1) m k1] [h2 : CN w (.slice a2 l2 c2) m k2] (b : k2 ≤ 1000000) :
    Calls Tryd.prog 13 #[.slice a1 l1 c1, .slice a2 l2 c2] w fun e w' => e = .returned (.bool true) ∧ Below w.heap.size w w' :=
  (same_any w _ _ _ _ h1.out.1 h2.out.1 (Nat.le_trans h2.out.2 b)).mono fun e w' h => ⟨by rw [h.1, sameB_of rfl], h.2⟩
theorem dl_val {l : List Nat} (h : Dig l) (hl : l.length ≤ 20) : (dl (val l)).length ≤ 200 := by
  refine dl_len (Nat.lt_of_lt_of_le (val_lt l h) (Nat.le_trans (Nat.pow_le_pow_right (by omega) hl) ?_))
  decide +kernel
theorem dec_kind {n : Nat} (h : (dl n).length ≤ 4000) : pKind (decStr n).data.toList = 0 ∧ bval (decStr n).data.toList = n := by
  rw [decStr_data]
  refine ⟨?_, bval_decL n⟩
  unfold pKind
  have h1 := decL_len n
  rw [if_neg, if_neg]
  · omega
  · rintro (h2 | ⟨b, hb, h2⟩)
    · exact decL_ne n h2
    · rw [decL_isD n b hb] at h2; cases h2
set_option maxRecDepth 100000 in
set_option maxHeartbeats 4000000 in
set_option synthInstance.maxSize 100000 in
set_option synthInstance.maxHeartbeats 1000000 in
theorem natTexts_walk (s : ByteArray) (a0 : Option Addr) (len0 cap0 : Nat) (z0 : List Int) (w : World) (_ : s.size ≤ maxLen) (w0 : IsRow .u32 w a0 len0 cap0 z0) (hL : laidMetH Tryd.prog laid2 w) :
    Calls Tryd.prog 4 #[.string s, .slice a0 len0 cap0] w fun e w' => e = .returned (.bool true) ∧ Below w.heap.size w w' := by
  obtain ⟨s0, s1, i0, i1, hne⟩ := sents2 hL
  clear hL
  obtain ⟨l, hl, hrd⟩ := rd_of_row w0
  clear w0
  have ir : CR w (.slice a0 len0 cap0) (val l) len0 := ⟨⟨l, hrd, rfl, by omega⟩⟩
  have hlen : len0 ≤ 9223372036854775807 := by
    obtain ⟨a, c, e, h1, h2, _⟩ := hrd; omega
  have HDL := Lib.hid (fun h : len0 ≤ 20 => dl_val hrd.dig (by omega))
  clear hrd hl
  generalize val l = m at *
  have S1 := small_any (w.alloc (.cells #[.slice a0 len0 cap0] 24)) w.heap.size 1 20 1 (fun _ => len0) (by omega) (fun _ _ => hlen) (fun i hi => by
    obtain rfl : i = 0 := by omega
    exact ⟨a0, cap0, by rw [World.cell?_alloc_at _ _ _ _ rfl]; rfl⟩)
  have HS := Lib.hid S1
  clear S1
  by_cases h200 : s.size ≤ 200
  · go_enter Tryd.func4, Tryd.ntmps4
    go_wp2_with fail
    refine HS.out.mono ?_
    rintro e w2 ⟨rfl, rfl⟩
    clear HS
    by_cases h20 : len0 ≤ 20
    · rw [smallB_true (fun _ _ => h20)]
      have HD := HDL.out h20
      have HPK := Lib.hid (dec_kind (n := m) (by omega))
      have HSZ : Hid ((decStr m).size ≤ 1000000000) := by have := decStr_size m; show _ ≤ _; omega
      clear HDL
      go_wp2_with fail
      rcases pKind_cases s.data.toList with hk | hk | hk
      · have HK := Lib.hid hk
        clear hk
        with_reducible refine Calls.kErr (parse1 inferInstance inferInstance (by omega) HK.out) ?_
        intro W3 _ b3 t3 _ _
        go_wp2_with fail
        with_reducible refine Calls.kReadK (readKC (by omega) HK.out (v := 0) rfl) ?_
        intro W4 _ a4 n4 c4 _
        go_wp2_with fail
        refine isSameC.mono ?_
        rintro e W5 ⟨rfl, rfl⟩
        go_wp2_with fail
        with_reducible refine Calls.cE (natFormatC ⟨by omega, by omega⟩) ?_
        intro W6 _
        go_wp2_with fail
        with_reducible refine Calls.kNum (parse0 inferInstance inferInstance HSZ.out (m := m) HPK.out) ?_
        intro W7 _ a7 l7 c7 _
        go_wp2_with (first
          | (go_at_call 11; (with_reducible refine Calls.cE (known_any _) ?_); intros)
          | (go_at_call 19; (with_reducible refine Calls.cN (refNC (by omega)) ?_); intros)
          | (go_at_call 18; (with_reducible refine Calls.cE (numTextC (by omega)) ?_); intros)
          | (go_at_call 13; (with_reducible refine Calls.cE (same01C (by omega)) ?_); intros))
        go_ret
        exact E.fin rfl
      · have := pk2 hk
        have h3 := str_len s
        omega
      · have HK := Lib.hid hk
        clear hk
        with_reducible refine Calls.kNum (parse0 inferInstance inferInstance (by omega) (m := bval s.data.toList) ⟨HK.out, rfl⟩) ?_
        intro W3 _ a3 l3 c3 _
        go_wp2_with fail
        with_reducible refine Calls.kReadK (readKC (by omega) HK.out (v := bval s.data.toList) rfl) ?_
        intro W4 _ a4 n4 c4 _
        go_wp2_with fail
        with_reducible refine Calls.cE (same01C (by omega)) ?_
        intro W5 _
        go_wp2_with fail
        with_reducible refine Calls.cE (natFormatC ⟨by omega, by omega⟩) ?_
        intro W6 _
        go_wp2_with fail
        with_reducible refine Calls.kNum (parse0 inferInstance inferInstance HSZ.out (m := m) HPK.out) ?_
        intro W7 _ a7 l7 c7 _
        go_wp2_with (first
          | (go_at_call 11; (with_reducible refine Calls.cE (known_any _) ?_); intros)
          | (go_at_call 19; (with_reducible refine Calls.cN (refNC (by omega)) ?_); intros)
          | (go_at_call 18; (with_reducible refine Calls.cE (numTextC (by omega)) ?_); intros)
          | (go_at_call 13; (with_reducible refine Calls.cE (same01C (by omega)) ?_); intros))
        go_ret
        exact E.fin rfl
    · rw [smallB_false (k := 0) (by omega) (by omega)]
      go_wp2_with fail
      with_reducible refine Calls.cE (known_any _) ?_
      intro W3 _
      go_wp2_with fail
      go_ret
      exact E.fin rfl
  · clear HS HDL
    go_enter Tryd.func4, Tryd.ntmps4
    go_wp2_with fail
    with_reducible refine Calls.cE (known_any _) ?_
    intro W3 _
    go_wp2_with fail
    go_ret
    exact E.fin rfl
end Go.Proofs.YtnkfbkdcplbgoaaDoor
