/-
  Contracts of package lexer: the classes of bytes, the reader.
  Printed by a small program (mklex.py).
-/
import Derived.Test.YtlameeijogdckaaDoorTk
import Derived.Deep.CutRange
import Derived.Deep.LoopGhost
namespace Go.Proofs.YtlameeijogdckaaDoor
open Go.RowKit

theorem ix_str (s : ByteArray) (k : Nat) (hk : k < s.size) (w : World) : (Instr.index 9 (.string s) (.int .i64 (k : Int))).run Tryd.prog w = .ok (.int .u8 ((byteAt s k).toNat : Int)) w := by
  have e : s[k]'hk = byteAt s k := by
    unfold byteAt
    obtain ⟨⟨l⟩⟩ := s
    have h' : k < l.length := hk
    rw [List.getD_eq_getElem?_getD, List.getElem?_eq_getElem h']
    rfl
  rw [run_index_string _ _ _ _ _ Tryd.underlying9, dif_pos ⟨by omega, by omega⟩, ← e]
  rfl
/-- The class of a byte by its number. -/
theorem cls_eq (b : UInt8) : cls b = if b.toNat = 10 ∨ b.toNat = 32 ∨ b.toNat = 9 ∨ b.toNat = 13 then 1 else if b.toNat = 35 then 2 else if 48 ≤ b.toNat ∧ b.toNat ≤ 57 then 4 else if (97 ≤ b.toNat ∧ b.toNat ≤ 122) ∨ (65 ≤ b.toNat ∧ b.toNat ≤ 90) ∨ b.toNat = 95 then 3 else if isSg b = true then 5 else 0 := by
  unfold cls isBl isDg isLetter
  simp only [Bool.or_eq_true, Bool.and_eq_true, decide_eq_true_eq, or_assoc]
set_option maxRecDepth 100000 in
set_option maxHeartbeats 4000000 in
set_option synthInstance.maxSize 100000 in
set_option synthInstance.maxHeartbeats 1000000 in
theorem indexByteV {w : World} {s : ByteArray} {b : UInt8} {n : Nat} {v : Int} (hn : Hid (b.toNat = n)) (hv : Hid (Lib.indexByte s.data.toList b = v)) :
    Calls Tryd.prog 35 #[.string s, .int .u8 (n : Int)] w fun e w' => e = .returned (.int .i64 v) ∧ w = w' := by
  have h43 := @run_callFunc_extern Tryd.prog 43 _ Extern.BytealgIndexByte.indexByte Tryd.func43 (by kernel_rfl) (by kernel_rfl) (by kernel_rfl) (by kernel_rfl)
  have hr := @Lib.run_indexByteString Tryd.prog s (n : Int)
  rw [show ((n : Int)).toNat.toUInt8 = b by rw [← hn.out]; simp, hv.out] at hr
  clear hn hv
  go_enter Tryd.func35, Tryd.ntmps35
  go_wp2
  go_ret
  exact ⟨rfl, rfl⟩
set_option maxRecDepth 100000 in
set_option maxHeartbeats 4000000 in
set_option synthInstance.maxSize 100000 in
set_option synthInstance.maxHeartbeats 1000000 in
theorem classOfC {w : World} {b : UInt8} : Calls Tryd.prog 22 #[.int .u8 (b.toNat : Int)] w fun e w' => e = .returned (.int .i64 (cls b)) ∧ w = w' := by
  have hc := cls_eq b
  have hb := b.toNat_lt
  have hs := idx_mem signL b
  have HI : Hid (∀ v, Lib.indexByte signL b = v → Lib.indexByte (ByteArray.mk #[40, 41, 123, 125, 44, 59, 61, 43, 45, 42, 47, 94, 126]).data.toList b = v) := fun v h => h
  obtain ⟨I, hI⟩ : ∃ I, Lib.indexByte signL b = I := ⟨_, rfl⟩
  have HV : Hid (Lib.indexByte (ByteArray.mk #[40, 41, 123, 125, 44, 59, 61, 43, 45, 42, 47, 94, 126]).data.toList b = I) := HI.out _ hI
  rw [hI] at hs
  obtain ⟨g, hg⟩ : ∃ g, signL.contains b = g := ⟨_, rfl⟩
  rw [show isSg b = g from hg] at hc
  rw [hg] at hs
  clear hI hg HI
  have HN : Hid (b.toNat = b.toNat) := rfl
  obtain ⟨n, hn⟩ : ∃ n, b.toNat = n := ⟨_, rfl⟩
  have HN : Hid (b.toNat = n) := hn
  rw [hn] at hc hb ⊢
  clear hn
  obtain ⟨X, hX⟩ : ∃ X, cls b = X := ⟨_, rfl⟩
  rw [hX] at hc ⊢
  clear hX
  have Q : ∀ k : Int, (n : Int) ≠ k → ((n : Int) == k) = false := fun k h => by rw [beq_eq_false_iff_ne]; exact h
  have hw : ∀ k : Int, X = k → (Value.int .i64 k = .int .i64 X) := fun k h => by rw [h]
  by_cases c1 : n = 10 ∨ n = 32 ∨ n = 9 ∨ n = 13
  · rw [if_pos c1] at hc
    have HC := Lib.hid hc
    clear hc Q hs HV
    rcases c1 with rfl | rfl | rfl | rfl
    all_goals
      go_enter Tryd.func22, Tryd.ntmps22
      go_wp2
      go_ret
      exact ⟨congrArg _ (hw _ HC.out), rfl⟩
  rw [if_neg c1] at hc
  have f1 := Q 10 (by omega)
  have f2 := Q 32 (by omega)
  have f3 := Q 9 (by omega)
  have f4 := Q 13 (by omega)
  clear c1
  by_cases c2 : n = 35
  · rw [if_pos c2] at hc
    have HC := Lib.hid hc
    clear hc Q hs HV f1 f2 f3 f4
    subst c2
    go_enter Tryd.func22, Tryd.ntmps22
    go_wp2
    go_ret
    exact ⟨congrArg _ (hw _ HC.out), rfl⟩
  rw [if_neg c2] at hc
  have f5 := Q 35 (by omega)
  clear c2
  by_cases c3 : 48 ≤ n ∧ n ≤ 57
  · rw [if_pos c3] at hc
    have HC := Lib.hid hc
    obtain ⟨c4, c5⟩ := c3
    clear hc Q hs HV
    go_enter Tryd.func22, Tryd.ntmps22
    go_wp2
    go_ret
    exact ⟨congrArg _ (hw _ HC.out), rfl⟩
  rw [if_neg c3] at hc
  by_cases c6 : (97 ≤ n ∧ n ≤ 122) ∨ (65 ≤ n ∧ n ≤ 90) ∨ n = 95
  · rw [if_pos c6] at hc
    have HC := Lib.hid hc
    clear hc hs HV
    rcases c6 with ⟨c7, c8⟩ | ⟨c7, c8⟩ | rfl
    · clear Q c3
      have c9 : (57 : Int) < n := by omega
      go_enter Tryd.func22, Tryd.ntmps22
      go_wp2
      go_ret
      exact ⟨congrArg _ (hw _ HC.out), rfl⟩
    · clear Q c3
      have c9 : (57 : Int) < n := by omega
      have c10 : (n : Int) < 97 := by omega
      go_enter Tryd.func22, Tryd.ntmps22
      go_wp2
      go_ret
      exact ⟨congrArg _ (hw _ HC.out), rfl⟩
    · clear Q c3 f1 f2 f3 f4 f5
      go_enter Tryd.func22, Tryd.ntmps22
      go_wp2
      go_ret
      exact ⟨congrArg _ (hw _ HC.out), rfl⟩
  rw [if_neg c6] at hc
  have f6 := Q 95 (by omega)
  have hr : n < 48 ∨ (57 < n ∧ n < 65) ∨ (90 < n ∧ n < 97) ∨ 122 < n := by omega
  clear Q c3 c6
  have HC := Lib.hid hc
  clear hc
  rcases hs with ⟨rfl, h2⟩ | ⟨rfl, rfl⟩
  all_goals
    rcases hr with c1 | ⟨c1, c2⟩ | ⟨c1, c2⟩ | c1
    all_goals
      go_enter Tryd.func22, Tryd.ntmps22
      go_wp2_with (go_at_call 35; (with_reducible refine Calls.cS (indexByteV HN HV) ?_); intros)
      go_ret
      exact ⟨congrArg _ (hw _ HC.out), rfl⟩
end Go.Proofs.YtlameeijogdckaaDoor
