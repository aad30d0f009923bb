/-
  Texts of this claim, joined: RTxt, RParse, RKnown.
-/
import Derived.Test.YtnkfbkdcplbgoaaGreatDoorFrac2
import Derived.Test.YtnkfbkdcplbgoaaGreatDoorFmt
import Derived.Test.YtnkfbkdcplbgoaaGreatDoorRA
import Derived.Lib.Bytealg
/- Texts of rational numbers: Format, strings.Cut at a byte, Parse. printed by a small program (mkrtxt.py). -/
namespace Go.Proofs.YtnkfbkdcplbgoaaGreatDoor
open Go.RowKit

/-- What a rational number is written as. -/
def fmtQ (x : Rat) : ByteArray := if x.den = 1 then decI x.num else decI x.num ++ (⟨#[47]⟩ ++ decStr x.den)
theorem decI_size (x : Int) : (decI x).size ≤ 2 + (dl x.natAbs).length := by
  have := decStr_size x.natAbs
  unfold decI
  split
  · rw [ByteArray.size_append]; show 1 + _ ≤ _; omega
  · omega
set_option maxRecDepth 100000 in
set_option maxHeartbeats 4000000 in
set_option synthInstance.maxSize 100000 in
set_option synthInstance.maxHeartbeats 1000000 in
theorem rWholeC {w : World} {n1 : Int} {d1 : Int} {p1 : Option Addr} {x : Rat} {k1 : Nat} [h1 : CF w (.agg #[.int .i64 n1, .int .i64 d1, .pointer p1]) x k1] (b : k1 ≤ 900000) :
    Calls Tryz.prog 135 #[.agg #[.int .i64 n1, .int .i64 d1, .pointer p1]] w (fun e w' => e = .returned (.bool (decide (x.den = 1))) ∧ Below w.heap.size w w') := by
  by_cases hx : x.den = 1
  · have HE : Hid (decide (x.den = 1) = true) := by show _ = _; simp [hx]
    rcases CF.cases h1 with ⟨rfl, en1, ed1, bn1, bm1, bd1, be1, bk1⟩ | ⟨rfl, rfl, hq1, q1, G1, A1, L1, C1, AA1, LL1, CC1, rfl, hB1, hZ1, hN1⟩
    · have e0 : (d1 == 0) = true := by rw [show d1 = 0 by omega]; rfl
      clear en1 ed1 hx
      go_enter Tryz.func135, Tryz.ntmps135
      go_wp2_with (first
    | (go_at_call 80; (with_reducible refine Calls.cS (bitsC (by omega)) ?_); intros))
      go_ret
      exact E.fin (by rw [HE.out]; rfl)
    · have e0 : (((nbits x.den : Nat) : Int) == 1) = true := by
        rw [hx]; decide +kernel
      clear hx
      go_enter Tryz.func135, Tryz.ntmps135
      go_wp2_with (first
    | (go_at_call 80; (with_reducible refine Calls.cS (bitsC (by omega)) ?_); intros))
      go_ret
      exact E.fin (by rw [HE.out]; rfl)
  · have HE : Hid (decide (x.den = 1) = false) := by show _ = _; simp [hx]
    rcases CF.cases h1 with ⟨rfl, en1, ed1, bn1, bm1, bd1, be1, bk1⟩ | ⟨rfl, rfl, hq1, q1, G1, A1, L1, C1, AA1, LL1, CC1, rfl, hB1, hZ1, hN1⟩
    · have e0 : (d1 == 0) = false := by rw [beq_eq_false_iff_ne]; omega
      clear en1 ed1 hx
      go_enter Tryz.func135, Tryz.ntmps135
      go_wp2_with (first
    | (go_at_call 80; (with_reducible refine Calls.cS (bitsC (by omega)) ?_); intros))
      go_ret
      exact E.fin (by rw [HE.out]; rfl)
    · have e0 : (((nbits x.den : Nat) : Int) == 1) = false := by
        rw [beq_eq_false_iff_ne]; have := @nbits1 x.den; have := den_pos' x; have := @nbits0 x.den; omega
      clear hx
      go_enter Tryz.func135, Tryz.ntmps135
      go_wp2_with (first
    | (go_at_call 80; (with_reducible refine Calls.cS (bitsC (by omega)) ?_); intros))
      go_ret
      exact E.fin (by rw [HE.out]; rfl)

set_option maxRecDepth 100000 in
set_option maxHeartbeats 4000000 in
set_option synthInstance.maxSize 100000 in
set_option synthInstance.maxHeartbeats 1000000 in
theorem rStringC {w : World} {n1 : Int} {d1 : Int} {p1 : Option Addr} {x : Rat} {k1 : Nat} [h1 : CF w (.agg #[.int .i64 n1, .int .i64 d1, .pointer p1]) x k1] (b : k1 ≤ 900000) (hl : (dl x.num.natAbs).length ≤ 100000000) (hl2 : (dl x.den).length ≤ 100000000) :
    Calls Tryz.prog 89 #[.agg #[.int .i64 n1, .int .i64 d1, .pointer p1]] w (fun e w' => e = .returned (.string (fmtQ x)) ∧ Below w.heap.size w w') := by
  by_cases hd : x.den = 1
  · have e0 : decide (x.den = 1) = true := by simp [hd]
    have HE : Hid (fmtQ x = decI x.num) := if_pos hd
    clear hd
    go_enter Tryz.func89, Tryz.ntmps89
    go_wp2_with (first
    | (go_at_call 102; (with_reducible refine Calls.cZ (rNumC (by omega)) ?_); intros)
    | (go_at_call 132; (with_reducible refine Calls.cN (rDenC (by omega)) ?_); intros)
    | (go_at_call 134; (with_reducible refine Calls.cE (intFormatC (by omega)) ?_); intros)
    | (go_at_call 136; (with_reducible refine Calls.cE (natFormatC (by omega)) ?_); intros)
    | (go_at_call 135; (with_reducible refine Calls.cE (rWholeC (by omega)) ?_); intros))
    go_ret
    exact E.fin (by rw [HE.out]; rfl)
  · have e0 : decide (x.den = 1) = false := by simp [hd]
    have HE : Hid (fmtQ x = decI x.num ++ (⟨#[47]⟩ ++ decStr x.den)) := if_neg hd
    have s1 := decI_size x.num
    have s2 := decStr_size x.den
    have z1 : (9223372036854775807 < 1 + (decStr x.den).size) ↔ False := ⟨fun h => by omega, False.elim⟩
    have z2 : (9223372036854775807 < (decI x.num).size + (1 + (decStr x.den).size)) ↔ False := ⟨fun h => by omega, False.elim⟩
    clear hd s1 s2
    go_enter Tryz.func89, Tryz.ntmps89
    go_wp2_with (first
    | (go_at_call 102; (with_reducible refine Calls.cZ (rNumC (by omega)) ?_); intros)
    | (go_at_call 132; (with_reducible refine Calls.cN (rDenC (by omega)) ?_); intros)
    | (go_at_call 134; (with_reducible refine Calls.cE (intFormatC (by omega)) ?_); intros)
    | (go_at_call 136; (with_reducible refine Calls.cE (natFormatC (by omega)) ?_); intros)
    | (go_at_call 135; (with_reducible refine Calls.cE (rWholeC (by omega)) ?_); intros))
    go_ret
    exact E.fin (by rw [HE.out]; rfl)

set_option maxRecDepth 100000 in
set_option maxHeartbeats 4000000 in
set_option synthInstance.maxSize 100000 in
set_option synthInstance.maxHeartbeats 1000000 in
theorem ratFormatC {w : World} {g1 : Bool} {a1 : Option Addr} {l1 : Nat} {c1 : Nat} {aa1 : Option Addr} {ll1 : Nat} {cc1 : Nat} {x : Rat} {k1 : Nat} [h1 : CW w (.agg #[.bool g1, .slice a1 l1 c1, .slice aa1 ll1 cc1]) x k1] (b : k1 ≤ 700000) (hl : (dl x.num.natAbs).length ≤ 100000000) (hl2 : (dl x.den).length ≤ 100000000) :
    Calls Tryz.prog 26 #[.agg #[.bool g1, .slice a1 l1 c1, .slice aa1 ll1 cc1]] w (fun e w' => e = .returned (.string (fmtQ x)) ∧ Below w.heap.size w w') := by
  go_enter Tryz.func26, Tryz.ntmps26
  go_wp2_with (first
    | (go_at_call 81; (with_reducible refine Calls.cF (ofC (by omega)) ?_); intros)
    | (go_at_call 89; (with_reducible refine Calls.cE (rStringC (by omega) hl hl2) ?_); intros))
  go_ret
  exact E.fin rfl

/-- Whether a text has a stroke, and where; the text before it and behind it. -/
def hasSlash (l : List UInt8) : Bool := l.contains 47
def slashAt (l : List UInt8) : Nat := l.findIdx (fun b => b == 47)
def cutL (l : List UInt8) : List UInt8 := if hasSlash l = true then l.take (slashAt l) else l
def cutR (l : List UInt8) : List UInt8 := if hasSlash l = true then l.drop (slashAt l + 1) else []
theorem slash_lt {l : List UInt8} (h : hasSlash l = true) : slashAt l < l.length := by
  unfold slashAt
  rw [List.findIdx_lt_length]
  exact ⟨47, by simpa [hasSlash] using h, by decide⟩
theorem index_slash : ∀ l : List UInt8, Lib.indexByte l 47 = if hasSlash l = true then (slashAt l : Int) else -1
  | [] => rfl
  | b :: l => by
    have ih := index_slash l
    unfold Lib.indexByte
    by_cases hb : (b == 47) = true
    · have e1 : hasSlash (b :: l) = true := by unfold hasSlash; simp [beq_iff_eq.1 hb]
      have e2 : slashAt (b :: l) = 0 := by unfold slashAt; rw [List.findIdx_cons, hb]; rfl
      rw [if_pos hb, if_pos e1, e2]; rfl
    · have hb' : (b == 47) = false := by simpa using hb
      have e1 : hasSlash (b :: l) = hasSlash l := by
        unfold hasSlash
        rw [List.contains_cons]
        have : ((47 : UInt8) == b) = false := by rw [beq_eq_false_iff_ne] at hb' ⊢; exact fun e => hb' e.symm
        rw [this, Bool.false_or]
      have e2 : slashAt (b :: l) = slashAt l + 1 := by unfold slashAt; rw [List.findIdx_cons, hb']; rfl
      rw [if_neg hb, e1, e2, ih]
      by_cases h : hasSlash l = true
      · rw [if_pos h, if_pos h]
        have : (((slashAt l : Nat) : Int) == -1) = false := by rw [beq_eq_false_iff_ne]; omega
        rw [this]; simp
      · rw [if_neg h, if_neg h]; rfl
/-- What strings.Cut returns. -/
def CutRet (w : World) (l : List UInt8) (e : Ending) (w' : World) : Prop :=
  ∃ p q, e = .returned (.tuple #[.string p, .string q, .bool (hasSlash l)]) ∧ p.data.toList = cutL l ∧ q.data.toList = cutR l ∧ Below w.heap.size w w'
set_option maxRecDepth 100000 in
set_option maxHeartbeats 4000000 in
theorem cutI (s : ByteArray) (w : World) (hsz : s.size ≤ 1000000000) : Calls Tryz.prog 123 #[.string s, .string ⟨#[47]⟩] w (CutRet w s.data.toList) := by
  have hI := @run_callFunc_extern Tryz.prog 186 _ Extern.BytealgIndexByte.indexByte Tryz.func186 (by kernel_rfl) (by kernel_rfl) (by kernel_rfl) (by kernel_rfl)
  have hix0 : ∀ w, (Instr.index 9 (.string ⟨#[47]⟩) (.int .i64 0)).run Tryz.prog w = .ok (.int .u8 47) w := fun _ => by kernel_rfl
  have hlen := str_len s
  by_cases hS : hasSlash s.data.toList = true
  · have hlt := slash_lt hS
    rw [← hlen] at hlt
    have hv : ∀ w, (Extern.BytealgIndexByte.indexByte #[.string s, .int .u8 47]).run Tryz.prog w = .ok (.int .i64 (slashAt s.data.toList : Nat)) w := fun w => by
      rw [run_indexByte_string, Lib.firstIdx_eq]
      have := index_slash s.data.toList
      rw [if_pos hS] at this
      rw [show (47 : Int).toNat.toUInt8 = 47 from rfl, this]
    have HF : Hid (∃ p q : ByteArray, p = s.extract 0 (slashAt s.data.toList) ∧ q = s.extract (slashAt s.data.toList + 1) s.size ∧ p.data.toList = cutL s.data.toList ∧ q.data.toList = cutR s.data.toList) := by
      refine ⟨_, _, rfl, rfl, ?_, ?_⟩
      · rw [Lib.extract_data, cutL, if_pos hS]; simp
      · rw [Lib.extract_data, cutR, if_pos hS, List.take_of_length_le (by rw [List.length_drop, ← hlen]; omega)]
    have HS := Lib.hid hS
    have hone : (([47] == s.toList) = true ∧ slashAt s.data.toList = 0) ∨ ([47] == s.toList) = false := by
      rw [Lib.toList_data]
      by_cases h : s.data.toList = [47]
      · left; rw [h]; exact ⟨rfl, rfl⟩
      · right; rw [beq_eq_false_iff_ne]; exact fun e => h e.symm
    have hw1 : IntKind.i64.wrap 1 = 1 := by decide
    clear hS hlen
    generalize slashAt s.data.toList = n at *
    rcases hone with ⟨hone, rfl⟩ | hone
    · have hlt2 : (1 : Int) ≤ (s.size : Int) := by omega
      try (have hlt3 : (n : Int) + 1 ≤ (s.size : Int) := by omega)
      try (have hlt4 : n ≤ s.size := by omega)
      try (have hlt5 : IntKind.i64.wrap ((n : Int) + 1) = (n : Int) + 1 := by simp [IntKind.wrap, IntKind.signed, IntKind.bits]; omega)
      try (have hlt6 : (0 : Int) ≤ (n : Int) + 1 := by omega)
      go_enter Tryz.func123, Tryz.ntmps123
      go_wp2
      refine region_cls (by kernel_rfl) [] (fun hHeld => ?_)
      refine wpAnyH_take (i := 0) (v := ?z92) (by simp; rfl) (by kernel_rfl) (by kernel_rfl) (by kernel_rfl) (by exact fun _ _ _ h => h) (Or.inl ⟨by rfl, ?yz92⟩) hHeld ?_
      case yz92 => (intro wx hSw; have hSx := Ex1.mk hSw; go_simp; (try with_reducible rfl))
      try simp only [Act.put, List.setIfInBounds_toArray, List.set_cons_zero, List.set_cons_succ]
      refine wpAnyH_take (i := 1) (v := ?z93) (by simp; rfl) (by kernel_rfl) (by kernel_rfl) (by kernel_rfl) (by exact fun _ _ _ h => h) (Or.inl ⟨by rfl, ?yz93⟩) hHeld ?_
      case yz93 => (intro wx hSw; have hSx := Ex1.mk hSw; go_simp; (try with_reducible rfl))
      try simp only [Act.put, List.setIfInBounds_toArray, List.set_cons_zero, List.set_cons_succ]
      refine wpAnyH_take (i := 2) (v := ?z94) (by simp; rfl) (by kernel_rfl) (by kernel_rfl) (by kernel_rfl) (by exact fun _ _ _ h => h) (Or.inl ⟨by rfl, ?yz94⟩) hHeld ?_
      case yz94 => (intro wx hSw; have hSx := Ex1.mk hSw; go_simp; (try with_reducible rfl))
      try simp only [Act.put, List.setIfInBounds_toArray, List.set_cons_zero, List.set_cons_succ]
      refine wpAnyH_take (i := 3) (v := ?z95) (by simp; rfl) (by kernel_rfl) (by kernel_rfl) (by kernel_rfl) (by exact fun _ _ _ h => h) (Or.inl ⟨by rfl, ?yz95⟩) hHeld ?_
      case yz95 => (intro wx hSw; have hSx := Ex1.mk hSw; go_simp; (try with_reducible rfl))
      try simp only [Act.put, List.setIfInBounds_toArray, List.set_cons_zero, List.set_cons_succ]
      refine wpAnyH_take (i := 4) (v := ?z96) (by simp; rfl) (by kernel_rfl) (by kernel_rfl) (by kernel_rfl) (by exact fun _ _ _ h => h) (Or.inl ⟨by rfl, ?yz96⟩) hHeld ?_
      case yz96 => (intro wx hSw; have hSx := Ex1.mk hSw; go_simp; (try with_reducible rfl))
      try simp only [Act.put, List.setIfInBounds_toArray, List.set_cons_zero, List.set_cons_succ]
      refine wpAnyH_take (i := 5) (v := ?z97) (by simp; rfl) (by kernel_rfl) (by kernel_rfl) (by kernel_rfl) (by exact fun _ _ _ h => h) (Or.inl ⟨by rfl, ?yz97⟩) hHeld ?_
      case yz97 => (intro wx hSw; have hSx := Ex1.mk hSw; go_simp; (try with_reducible rfl))
      try simp only [Act.put, List.setIfInBounds_toArray, List.set_cons_zero, List.set_cons_succ]
      refine wpAnyH_take (i := 6) (v := ?z98) (by simp; rfl) (by kernel_rfl) (by kernel_rfl) (by kernel_rfl) (by exact fun _ _ _ h => h) (Or.inl ⟨by rfl, ?yz98⟩) hHeld ?_
      case yz98 => (intro wx hSw; have hSx := Ex1.mk hSw; go_simp; (try with_reducible rfl))
      try simp only [Act.put, List.setIfInBounds_toArray, List.set_cons_zero, List.set_cons_succ]
      refine wpAnyH_take (i := 7) (v := ?z99) (by simp; rfl) (by kernel_rfl) (by kernel_rfl) (by kernel_rfl) (by exact fun _ _ _ h => h) (Or.inl ⟨by rfl, ?yz99⟩) hHeld ?_
      case yz99 => (intro wx hSw; have hSx := Ex1.mk hSw; go_simp; (try with_reducible rfl))
      try simp only [Act.put, List.setIfInBounds_toArray, List.set_cons_zero, List.set_cons_succ]
      refine wpAnyH_take (i := 8) (v := ?z100) (by simp; rfl) (by kernel_rfl) (by kernel_rfl) (by kernel_rfl) (by exact fun _ _ _ h => h) (Or.inl ⟨by rfl, ?yz100⟩) hHeld ?_
      case yz100 => (intro wx hSw; have hSx := Ex1.mk hSw; go_simp; (try with_reducible rfl))
      try simp only [Act.put, List.setIfInBounds_toArray, List.set_cons_zero, List.set_cons_succ]
      refine wpAnyH_take (i := 9) (v := ?z101) (by simp; rfl) (by kernel_rfl) (by kernel_rfl) (by kernel_rfl) (by exact fun _ _ _ h => h) (Or.inl ⟨by rfl, ?yz101⟩) hHeld ?_
      case yz101 => (intro wx hSw; have hSx := Ex1.mk hSw; go_simp; (try with_reducible rfl))
      try simp only [Act.put, List.setIfInBounds_toArray, List.set_cons_zero, List.set_cons_succ]
      refine wpAnyH_take (i := 10) (v := ?z102) (by simp; rfl) (by kernel_rfl) (by kernel_rfl) (by kernel_rfl) (by exact fun _ _ _ h => h) (Or.inl ⟨by rfl, ?yz102⟩) hHeld ?_
      case yz102 => (intro wx hSw; have hSx := Ex1.mk hSw; go_simp; (try with_reducible rfl))
      try simp only [Act.put, List.setIfInBounds_toArray, List.set_cons_zero, List.set_cons_succ]
      refine wpAnyH_take (i := 11) (v := ?z103) (by simp; rfl) (by kernel_rfl) (by kernel_rfl) (by kernel_rfl) (by exact fun _ _ _ h => h) (Or.inl ⟨by rfl, ?yz103⟩) hHeld ?_
      case yz103 => (intro wx hSw; have hSx := Ex1.mk hSw; go_simp; (try with_reducible rfl))
      try simp only [Act.put, List.setIfInBounds_toArray, List.set_cons_zero, List.set_cons_succ]
      refine wpAnyH_done (by kernel_rfl) ?_ _
      clear hHeld
      go_wp2
      go_ret3
      obtain ⟨p, q, rfl, rfl, h1, h2⟩ := HF.out
      have e00 : s.extract 0 0 = ByteArray.empty := by simp
      first
        | exact ⟨_, _, by rw [HS.out]; rfl, h1, h2, (inferInstance : Kp w _).out⟩
        | (rw [e00] at h1; exact ⟨_, _, by rw [HS.out]; rfl, h1, h2, (inferInstance : Kp w _).out⟩)
    · have hlt2 : (1 : Int) ≤ (s.size : Int) := by omega
      try (have hlt3 : (n : Int) + 1 ≤ (s.size : Int) := by omega)
      try (have hlt4 : n ≤ s.size := by omega)
      try (have hlt5 : IntKind.i64.wrap ((n : Int) + 1) = (n : Int) + 1 := by simp [IntKind.wrap, IntKind.signed, IntKind.bits]; omega)
      try (have hlt6 : (0 : Int) ≤ (n : Int) + 1 := by omega)
      go_enter Tryz.func123, Tryz.ntmps123
      go_wp2
      refine region_cls (by kernel_rfl) [] (fun hHeld => ?_)
      refine wpAnyH_take (i := 0) (v := ?z104) (by simp; rfl) (by kernel_rfl) (by kernel_rfl) (by kernel_rfl) (by exact fun _ _ _ h => h) (Or.inl ⟨by rfl, ?yz104⟩) hHeld ?_
      case yz104 => (intro wx hSw; have hSx := Ex1.mk hSw; go_simp; (try with_reducible rfl))
      try simp only [Act.put, List.setIfInBounds_toArray, List.set_cons_zero, List.set_cons_succ]
      refine wpAnyH_take (i := 1) (v := ?z105) (by simp; rfl) (by kernel_rfl) (by kernel_rfl) (by kernel_rfl) (by exact fun _ _ _ h => h) (Or.inl ⟨by rfl, ?yz105⟩) hHeld ?_
      case yz105 => (intro wx hSw; have hSx := Ex1.mk hSw; go_simp; (try with_reducible rfl))
      try simp only [Act.put, List.setIfInBounds_toArray, List.set_cons_zero, List.set_cons_succ]
      refine wpAnyH_take (i := 2) (v := ?z106) (by simp; rfl) (by kernel_rfl) (by kernel_rfl) (by kernel_rfl) (by exact fun _ _ _ h => h) (Or.inl ⟨by rfl, ?yz106⟩) hHeld ?_
      case yz106 => (intro wx hSw; have hSx := Ex1.mk hSw; go_simp; (try with_reducible rfl))
      try simp only [Act.put, List.setIfInBounds_toArray, List.set_cons_zero, List.set_cons_succ]
      refine wpAnyH_take (i := 3) (v := ?z107) (by simp; rfl) (by kernel_rfl) (by kernel_rfl) (by kernel_rfl) (by exact fun _ _ _ h => h) (Or.inl ⟨by rfl, ?yz107⟩) hHeld ?_
      case yz107 => (intro wx hSw; have hSx := Ex1.mk hSw; go_simp; (try with_reducible rfl))
      try simp only [Act.put, List.setIfInBounds_toArray, List.set_cons_zero, List.set_cons_succ]
      refine wpAnyH_take (i := 4) (v := ?z108) (by simp; rfl) (by kernel_rfl) (by kernel_rfl) (by kernel_rfl) (by exact fun _ _ _ h => h) (Or.inl ⟨by rfl, ?yz108⟩) hHeld ?_
      case yz108 => (intro wx hSw; have hSx := Ex1.mk hSw; go_simp; (try with_reducible rfl))
      try simp only [Act.put, List.setIfInBounds_toArray, List.set_cons_zero, List.set_cons_succ]
      refine wpAnyH_take (i := 5) (v := ?z109) (by simp; rfl) (by kernel_rfl) (by kernel_rfl) (by kernel_rfl) (by exact fun _ _ _ h => h) (Or.inl ⟨by rfl, ?yz109⟩) hHeld ?_
      case yz109 => (intro wx hSw; have hSx := Ex1.mk hSw; go_simp; (try with_reducible rfl))
      try simp only [Act.put, List.setIfInBounds_toArray, List.set_cons_zero, List.set_cons_succ]
      refine wpAnyH_take (i := 6) (v := ?z110) (by simp; rfl) (by kernel_rfl) (by kernel_rfl) (by kernel_rfl) (by exact fun _ _ _ h => h) (Or.inl ⟨by rfl, ?yz110⟩) hHeld ?_
      case yz110 => (intro wx hSw; have hSx := Ex1.mk hSw; go_simp; (try with_reducible rfl))
      try simp only [Act.put, List.setIfInBounds_toArray, List.set_cons_zero, List.set_cons_succ]
      refine wpAnyH_take (i := 7) (v := ?z111) (by simp; rfl) (by kernel_rfl) (by kernel_rfl) (by kernel_rfl) (by exact fun _ _ _ h => h) (Or.inl ⟨by rfl, ?yz111⟩) hHeld ?_
      case yz111 => (intro wx hSw; have hSx := Ex1.mk hSw; go_simp; (try with_reducible rfl))
      try simp only [Act.put, List.setIfInBounds_toArray, List.set_cons_zero, List.set_cons_succ]
      refine wpAnyH_take (i := 8) (v := ?z112) (by simp; rfl) (by kernel_rfl) (by kernel_rfl) (by kernel_rfl) (by exact fun _ _ _ h => h) (Or.inl ⟨by rfl, ?yz112⟩) hHeld ?_
      case yz112 => (intro wx hSw; have hSx := Ex1.mk hSw; go_simp; (try with_reducible rfl))
      try simp only [Act.put, List.setIfInBounds_toArray, List.set_cons_zero, List.set_cons_succ]
      refine wpAnyH_take (i := 9) (v := ?z113) (by simp; rfl) (by kernel_rfl) (by kernel_rfl) (by kernel_rfl) (by exact fun _ _ _ h => h) (Or.inl ⟨by rfl, ?yz113⟩) hHeld ?_
      case yz113 => (intro wx hSw; have hSx := Ex1.mk hSw; go_simp; (try with_reducible rfl))
      try simp only [Act.put, List.setIfInBounds_toArray, List.set_cons_zero, List.set_cons_succ]
      refine wpAnyH_take (i := 10) (v := ?z114) (by simp; rfl) (by kernel_rfl) (by kernel_rfl) (by kernel_rfl) (by exact fun _ _ _ h => h) (Or.inl ⟨by rfl, ?yz114⟩) hHeld ?_
      case yz114 => (intro wx hSw; have hSx := Ex1.mk hSw; go_simp; (try with_reducible rfl))
      try simp only [Act.put, List.setIfInBounds_toArray, List.set_cons_zero, List.set_cons_succ]
      refine wpAnyH_take (i := 11) (v := ?z115) (by simp; rfl) (by kernel_rfl) (by kernel_rfl) (by kernel_rfl) (by exact fun _ _ _ h => h) (Or.inl ⟨by rfl, ?yz115⟩) hHeld ?_
      case yz115 => (intro wx hSw; have hSx := Ex1.mk hSw; go_simp; (try with_reducible rfl))
      try simp only [Act.put, List.setIfInBounds_toArray, List.set_cons_zero, List.set_cons_succ]
      refine wpAnyH_done (by kernel_rfl) ?_ _
      clear hHeld
      go_wp2
      go_ret3
      obtain ⟨p, q, rfl, rfl, h1, h2⟩ := HF.out
      have e00 : s.extract 0 0 = ByteArray.empty := by simp
      first
        | exact ⟨_, _, by rw [HS.out]; rfl, h1, h2, (inferInstance : Kp w _).out⟩
        | (rw [e00] at h1; exact ⟨_, _, by rw [HS.out]; rfl, h1, h2, (inferInstance : Kp w _).out⟩)
  · have hv : ∀ w, (Extern.BytealgIndexByte.indexByte #[.string s, .int .u8 47]).run Tryz.prog w = .ok (.int .i64 (-1)) w := fun w => by
      rw [run_indexByte_string, Lib.firstIdx_eq]
      have := index_slash s.data.toList
      rw [if_neg hS] at this
      rw [show (47 : Int).toNat.toUInt8 = 47 from rfl, this]
    have h1 : Hid (s.data.toList = cutL s.data.toList) := by show _ = _; rw [cutL, if_neg hS]
    have h2 : Hid ((⟨#[]⟩ : ByteArray).data.toList = cutR s.data.toList) := by show _ = _; rw [cutR, if_neg hS]
    have HS : Hid (hasSlash s.data.toList = false) := by show _ = _; simpa using hS
    have hone : ([47] == s.toList) = false := by
      rw [Lib.toList_data, beq_eq_false_iff_ne]
      intro e
      rw [← e] at hS
      exact hS rfl
    clear hS hlen
    go_enter Tryz.func123, Tryz.ntmps123
    go_wp2
    go_ret3
    exact ⟨_, _, by rw [HS.out]; rfl, h1.out, h2.out, (inferInstance : Kp w _).out⟩
theorem cutC (s : ByteArray) (w : World) (hsz : s.size ≤ 1000000000) : Calls Tryz.prog 71 #[.string s, .string ⟨#[47]⟩] w (CutRet w s.data.toList) := by
  go_enter Tryz.func71, Tryz.ntmps71
  go_wp2_with (go_at_call 123; refine (cutI s w hsz).mono ?_; rintro e w' ⟨p, q, rfl, h1, h2, hb⟩)
  go_ret3
  exact ⟨_, _, rfl, h1, h2, hb⟩
end Go.Proofs.YtnkfbkdcplbgoaaGreatDoor

/- Contract of rational.Parse. printed by a small program (mkrtxt.py). -/
namespace Go.Proofs.YtnkfbkdcplbgoaaGreatDoor
open Go.RowKit

set_option linter.unusedVariables false

theorem iparse0 {w w1 w2 : World} {s : ByteArray} {a0 a1 : Addr} (h0 : Snt w 0 a0 w1) (h1 : Snt w 2 a1 w2) (hsz : s.size ≤ 1000000000) {z : Int} (hk : pKind (iDig s.data.toList) = 0 ∧ iVal s.data.toList = z) :
    Calls Tryz.prog 78 #[.string s] w (IntRet w z 4097) := (iparse_any s hsz).mono fun e w' h => by
  obtain ⟨hk, rfl⟩ := hk
  rcases h with h | h | h
  · rw [hk] at h; exact absurd h.1 (by decide)
  · rw [hk] at h; exact absurd h.1 (by decide)
  · exact h.2
theorem cutL_len (l : List UInt8) : (cutL l).length ≤ l.length := by
  unfold cutL
  split
  · exact List.length_take_le' ..
  · exact Nat.le_refl _
theorem cutR_len (l : List UInt8) : (cutR l).length ≤ l.length := by
  unfold cutR
  split
  · rw [List.length_drop]; omega
  · simp
theorem Calls.kCut {P : Program} {f : FuncId} {args : Array Value} {w : World} {l : List UInt8} {K : Ending → World → Prop} (h : Calls P f args w (CutRet w l)) {p q : List UInt8} {b : Bool} (hh : hasSlash l = b ∧ cutL l = p ∧ cutR l = q)
    (hK : ∀ w' [Kp1 w w'] x y, Hid (x.data.toList = p) → Hid (y.data.toList = q) → K (.returned (.tuple #[.string x, .string y, .bool b])) w') : Calls P f args w K := by
  refine h.mono ?_
  rintro e w' ⟨x, y, rfl, hx, hy, hb⟩
  rw [hh.1]
  exact @hK w' ⟨hb⟩ x y (hx.trans hh.2.1) (hy.trans hh.2.2)
def RatRet (w : World) (z : Rat) (k : Nat) (e : Ending) (w' : World) : Prop :=
  ∃ g a l c aa ll cc, e = .returned (.tuple #[.agg #[.bool g, .slice a l c, .slice aa ll cc], .nilIface]) ∧ CA w' (.agg #[.bool g, .slice a l c, .slice aa ll cc]) z k ∧ Below w.heap.size w w'
theorem Calls.kRat {P : Program} {f : FuncId} {args : Array Value} {w : World} {z : Rat} {k : Nat} {K : Ending → World → Prop} (h : Calls P f args w (RatRet w z k))
    (hK : ∀ w' [Kp1 w w'] g a l c aa ll cc [CA w' (.agg #[.bool g, .slice a l c, .slice aa ll cc]) z k], K (.returned (.tuple #[.agg #[.bool g, .slice a l c, .slice aa ll cc], .nilIface])) w') : Calls P f args w K := by
  refine h.mono ?_
  rintro e w' ⟨g, a, l, c, aa, ll, cc, rfl, hx, hb⟩
  exact @hK w' ⟨hb⟩ g a l c aa ll cc hx
set_option maxRecDepth 100000 in
set_option maxHeartbeats 4000000 in
set_option synthInstance.maxSize 100000 in
set_option synthInstance.maxHeartbeats 1000000 in
theorem rparse_00p {w w1 w2 w3 : World} (s : ByteArray) {a0 a1 a2 : Addr} [h0 : Snt w 0 a0 w1] [h1 : Snt w 2 a1 w2] [h2 : Snt w 1 a2 w3] (hne : a1 ≠ a0) (hsz : s.size ≤ 1000000) {zn : Int} {dn : Nat} (hh : hasSlash s.data.toList = true) (he : pKind (iDig (cutL s.data.toList)) = 0 ∧ iVal (cutL s.data.toList) = zn) (hf : pKind (cutR s.data.toList) = 0 ∧ bval (cutR s.data.toList) = dn) (hd : dn ≠ 0) :
    Calls Tryz.prog 22 #[.string s] w (RatRet w (mkRat zn dn) 5000) := by
  have i0 := h0.here
  have i1 := h1.here
  have i2 := h2.here
  clear h0 h1 h2
  have hlen := str_len s
  have hl1 := cutL_len s.data.toList
  have hl2 := cutR_len s.data.toList
  rw [← hlen] at hl1 hl2
  obtain ⟨pl, hpl⟩ : ∃ pl, cutL s.data.toList = pl := ⟨_, rfl⟩
  obtain ⟨ql, hql⟩ : ∃ ql, cutR s.data.toList = ql := ⟨_, rfl⟩
  have HC : Hid (hasSlash s.data.toList = true ∧ cutL s.data.toList = pl ∧ cutR s.data.toList = ql) := ⟨hh, hpl, hql⟩
  rw [hpl] at he hl1
  rw [hql] at hf hl2
  have HE := Lib.hid he
  have HF := Lib.hid hf
  clear hh he hf hlen hpl hql
  go_enter Tryz.func22, Tryz.ntmps22
  go_wp2_with fail
  with_reducible refine Calls.kCut (cutC s _ (by omega)) HC.out ?_
  intro W1 _ x y hx hy
  have hxs : x.size ≤ 1000000000 := by rw [str_len, hx.out]; omega
  have hys : y.size ≤ 1000000000 := by rw [str_len, hy.out]; omega
  have HE2 : Hid (pKind (iDig x.data.toList) = 0 ∧ iVal x.data.toList = zn) := by show _; rw [hx.out]; exact HE.out
  have HF2 : Hid (pKind y.data.toList = 0 ∧ bval y.data.toList = dn) := by show _; rw [hy.out]; exact HF.out
  have hbt : (((nbits dn : Nat) : Int) == 0) = false := by
    rw [beq_eq_false_iff_ne]; have := @nbits0 dn; omega
  go_wp2_with (first
    | (go_at_call 78; (with_reducible refine Calls.kInt (iparse0 inferInstance inferInstance hxs HE2.out) ?_); intros)
    | (go_at_call 79; (with_reducible refine Calls.kNum (parse0 inferInstance inferInstance hys HF2.out) ?_); intros)
    | (go_at_call 18; (with_reducible refine Calls.cS (isNilC _) ?_))
    | (go_at_call 18; (with_reducible refine Calls.cS isSameC ?_))
    | (go_at_call 18; (with_reducible refine Calls.cS (isOtherC (g1 := 2) (g2 := 0) inferInstance inferInstance hne) ?_))
    | (go_at_call 80; (with_reducible refine Calls.cS (bitsC (by omega)) ?_); intros)
    | (go_at_call 81; (with_reducible refine Calls.cF (ofC (by omega)) ?_); intros)
    | (go_at_call 82; (with_reducible refine Calls.cA (rApiC (by omega)) ?_); intros))
  refine ret_bt rfl Tryz.underlying29 rfl (by kernel_rfl) rfl rfl rfl ?_
  exact ⟨_, _, _, _, _, _, _, rfl, CA.cast inferInstance (by rfl) (by omega), (inferInstance : Kp w _).out⟩

set_option maxRecDepth 100000 in
set_option maxHeartbeats 4000000 in
set_option synthInstance.maxSize 100000 in
set_option synthInstance.maxHeartbeats 1000000 in
theorem rparse_00z {w w1 w2 w3 : World} (s : ByteArray) {a0 a1 a2 : Addr} [h0 : Snt w 0 a0 w1] [h1 : Snt w 2 a1 w2] [h2 : Snt w 1 a2 w3] (hne : a1 ≠ a0) (hsz : s.size ≤ 1000000) {zn : Int} {dn : Nat} (hh : hasSlash s.data.toList = true) (he : pKind (iDig (cutL s.data.toList)) = 0 ∧ iVal (cutL s.data.toList) = zn) (hf : pKind (cutR s.data.toList) = 0 ∧ bval (cutR s.data.toList) = dn) (hd : dn = 0) :
    Calls Tryz.prog 22 #[.string s] w (ErrRet w (.agg #[.bool false, .slice none 0 0, .slice none 0 0]) a2) := by
  have i0 := h0.here
  have i1 := h1.here
  have i2 := h2.here
  clear h0 h1 h2
  have hlen := str_len s
  have hl1 := cutL_len s.data.toList
  have hl2 := cutR_len s.data.toList
  rw [← hlen] at hl1 hl2
  obtain ⟨pl, hpl⟩ : ∃ pl, cutL s.data.toList = pl := ⟨_, rfl⟩
  obtain ⟨ql, hql⟩ : ∃ ql, cutR s.data.toList = ql := ⟨_, rfl⟩
  have HC : Hid (hasSlash s.data.toList = true ∧ cutL s.data.toList = pl ∧ cutR s.data.toList = ql) := ⟨hh, hpl, hql⟩
  rw [hpl] at he hl1
  rw [hql] at hf hl2
  have HE := Lib.hid he
  have HF := Lib.hid hf
  clear hh he hf hlen hpl hql
  subst hd
  go_enter Tryz.func22, Tryz.ntmps22
  go_wp2_with fail
  with_reducible refine Calls.kCut (cutC s _ (by omega)) HC.out ?_
  intro W1 _ x y hx hy
  have hxs : x.size ≤ 1000000000 := by rw [str_len, hx.out]; omega
  have hys : y.size ≤ 1000000000 := by rw [str_len, hy.out]; omega
  have HE2 : Hid (pKind (iDig x.data.toList) = 0 ∧ iVal x.data.toList = zn) := by show _; rw [hx.out]; exact HE.out
  have HF2 : Hid (pKind y.data.toList = 0 ∧ bval y.data.toList = 0) := by show _; rw [hy.out]; exact HF.out
  have hbt : (((nbits 0 : Nat) : Int) == 0) = true := by
    rfl
  go_wp2_with (first
    | (go_at_call 78; (with_reducible refine Calls.kInt (iparse0 inferInstance inferInstance hxs HE2.out) ?_); intros)
    | (go_at_call 79; (with_reducible refine Calls.kNum (parse0 inferInstance inferInstance hys HF2.out) ?_); intros)
    | (go_at_call 18; (with_reducible refine Calls.cS (isNilC _) ?_))
    | (go_at_call 18; (with_reducible refine Calls.cS isSameC ?_))
    | (go_at_call 18; (with_reducible refine Calls.cS (isOtherC (g1 := 2) (g2 := 0) inferInstance inferInstance hne) ?_))
    | (go_at_call 80; (with_reducible refine Calls.cS (bitsC (by omega)) ?_); intros)
    | (go_at_call 81; (with_reducible refine Calls.cF (ofC (by omega)) ?_); intros)
    | (go_at_call 82; (with_reducible refine Calls.cA (rApiC (by omega)) ?_); intros))
  refine region_cls (by kernel_rfl) [w.heap.size] (fun hHeld => ?_)
  refine wpAnyH_take (i := 0) (v := ?z186) (by simp; rfl) (by kernel_rfl) (by kernel_rfl) (by kernel_rfl) (by exact fun _ _ _ h => h) (Or.inl ⟨by rfl, ?yz186⟩) hHeld ?_
  case yz186 => (intro wx hSw; have hSx := Ex1.mk hSw; go_simp; (try with_reducible rfl))
  try simp only [Act.put, List.setIfInBounds_toArray, List.set_cons_zero, List.set_cons_succ]
  refine wpAnyH_take (i := 1) (v := ?z187) (by simp; rfl) (by kernel_rfl) (by kernel_rfl) (by kernel_rfl) (by exact fun _ _ _ h => h) (Or.inl ⟨by rfl, ?yz187⟩) hHeld ?_
  case yz187 => (intro wx hSw; have hSx := Ex1.mk hSw; go_simp; (try with_reducible rfl))
  try simp only [Act.put, List.setIfInBounds_toArray, List.set_cons_zero, List.set_cons_succ]
  refine wpAnyH_take (i := 2) (v := ?z188) (by simp; rfl) (by kernel_rfl) (by kernel_rfl) (by kernel_rfl) (by exact fun _ _ _ h => h) (Or.inl ⟨by rfl, ?yz188⟩) hHeld ?_
  case yz188 => (intro wx hSw; have hSx := Ex1.mk hSw; go_simp; (try with_reducible rfl))
  try simp only [Act.put, List.setIfInBounds_toArray, List.set_cons_zero, List.set_cons_succ]
  refine wpAnyH_ready (rs := [3, 5]) (by kernel_rfl) (by simp) ?_
  refine AllReadyH.cons (by simp; rfl) (fun K hK => ?_) (AllReadyH.cons (by simp; rfl) (fun K hK => ?_) AllReadyH.nil)
  go_simp
  refine hK.out _ _ inferInstance ?_
  clear hHeld hK K
  intro hHeld
  try simp only [Act.put, List.setIfInBounds_toArray, List.set_cons_zero, List.set_cons_succ]
  refine wpAnyH_take (i := 4) (v := ?z189) (by simp; rfl) (by kernel_rfl) (by kernel_rfl) (by kernel_rfl) (by exact fun _ _ _ h => h) (Or.inl ⟨by rfl, ?yz189⟩) hHeld ?_
  case yz189 => (intro wx hSw; have hSx := Ex1.mk hSw; go_simp; (try with_reducible rfl))
  try simp only [Act.put, List.setIfInBounds_toArray, List.set_cons_zero, List.set_cons_succ]
  refine wpAnyH_ready (rs := [5]) (by kernel_rfl) (by simp) ?_
  refine AllReadyH.cons (by simp; rfl) (fun K hK => ?_) AllReadyH.nil
  go_simp
  refine hK.out _ _ inferInstance ?_
  clear hHeld hK K
  intro hHeld
  try simp only [Act.put, List.setIfInBounds_toArray, List.set_cons_zero, List.set_cons_succ]
  refine wpAnyH_take (i := 6) (v := ?z190) (by simp; rfl) (by kernel_rfl) (by kernel_rfl) (by kernel_rfl) (by exact fun _ _ _ h => h) (Or.inl ⟨by rfl, ?yz190⟩) hHeld ?_
  case yz190 => (intro wx hSw; have hSx := Ex1.mk hSw; go_simp; (try with_reducible rfl))
  try simp only [Act.put, List.setIfInBounds_toArray, List.set_cons_zero, List.set_cons_succ]
  refine wpAnyH_done (by kernel_rfl) ?_ _
  clear hHeld
  go_wp2
  refine ret_bt rfl Tryz.underlying29 rfl (by kernel_rfl) rfl rfl rfl ?_
  exact ⟨_, _, rfl, inferInstance, inferInstance, (inferInstance : Kp w _).out⟩
  go_simp
  refine hK.out _ _ inferInstance ?_
  clear hHeld hK K
  intro hHeld
  try simp only [Act.put, List.setIfInBounds_toArray, List.set_cons_zero, List.set_cons_succ]
  refine wpAnyH_ready (rs := [3]) (by kernel_rfl) (by simp) ?_
  refine AllReadyH.cons (by simp; rfl) (fun K hK => ?_) AllReadyH.nil
  go_simp
  refine hK.out _ _ inferInstance ?_
  clear hHeld hK K
  intro hHeld
  try simp only [Act.put, List.setIfInBounds_toArray, List.set_cons_zero, List.set_cons_succ]
  refine wpAnyH_take (i := 4) (v := ?z191) (by simp; rfl) (by kernel_rfl) (by kernel_rfl) (by kernel_rfl) (by exact fun _ _ _ h => h) (Or.inl ⟨by rfl, ?yz191⟩) hHeld ?_
  case yz191 => (intro wx hSw; have hSx := Ex1.mk hSw; go_simp; (try with_reducible rfl))
  try simp only [Act.put, List.setIfInBounds_toArray, List.set_cons_zero, List.set_cons_succ]
  refine wpAnyH_take (i := 6) (v := ?z192) (by simp; rfl) (by kernel_rfl) (by kernel_rfl) (by kernel_rfl) (by exact fun _ _ _ h => h) (Or.inl ⟨by rfl, ?yz192⟩) hHeld ?_
  case yz192 => (intro wx hSw; have hSx := Ex1.mk hSw; go_simp; (try with_reducible rfl))
  try simp only [Act.put, List.setIfInBounds_toArray, List.set_cons_zero, List.set_cons_succ]
  refine wpAnyH_done (by kernel_rfl) ?_ _
  clear hHeld
  go_wp2
  refine ret_bt rfl Tryz.underlying29 rfl (by kernel_rfl) rfl rfl rfl ?_
  exact ⟨_, _, rfl, inferInstance, inferInstance, (inferInstance : Kp w _).out⟩

end Go.Proofs.YtnkfbkdcplbgoaaGreatDoor

/- The sanity check of layer 3. printed by a small program (mkrtxt.py). -/
namespace Go.Proofs.YtnkfbkdcplbgoaaGreatDoor
open Go.RowKit

theorem ratFormatV {w : World} {g1 : Bool} {a1 : Option Addr} {l1 c1 : Nat} {aa1 : Option Addr} {ll1 cc1 : Nat} {x : Rat} {k1 : Nat} {s : ByteArray} [h1 : CW w (.agg #[.bool g1, .slice a1 l1 c1, .slice aa1 ll1 cc1]) x k1] (b : k1 ≤ 700000) (hl : (dl x.num.natAbs).length ≤ 100000000) (hl2 : (dl x.den).length ≤ 100000000) (hs : Hid (fmtQ x = s)) :
    Calls Tryz.prog 26 #[.agg #[.bool g1, .slice a1 l1 c1, .slice aa1 ll1 cc1]] w (fun e w' => e = .returned (.string s) ∧ Below w.heap.size w w') := by
  rw [← hs.out]
  exact ratFormatC b hl hl2
theorem dl_one {n : Nat} (h0 : n ≠ 0) (h : n < 10) : dl n = [n] := by
  rw [dl_pos h0, show n / 10 = 0 by omega, dl_zero, show n % 10 = n by omega]
set_option maxRecDepth 100000 in
set_option maxHeartbeats 4000000 in
set_option synthInstance.maxSize 100000 in
set_option synthInstance.maxHeartbeats 1000000 in
theorem known03C {w w1 w2 w3 : World} {a0 a1 a2 : Addr} (h0 : Snt w 0 a0 w1) (h1 : Snt w 2 a1 w2) (h2 : Snt w 1 a2 w3) (hne : a1 ≠ a0) :
    Calls Tryz.prog 21 #[] w fun e w' => e = .returned (.bool true) ∧ Below w.heap.size w w' := by
  have i0 := h0.here
  have i1 := h1.here
  have i2 := h2.here
  clear h0 h1 h2
  have n1 : (mkRat 4 6).num = 2 := by decide +kernel
  have n2 : (mkRat 4 6).den = 3 := by decide +kernel
  have HF : Hid (fmtQ (mkRat 4 6) = ⟨#[50, 47, 51]⟩) := by
    show _ = _
    unfold fmtQ
    rw [n1, n2, if_neg (by decide)]
    unfold decI decStr decBytes
    rw [show (2 : Int).natAbs = 2 from rfl, dl_one (by decide) (by decide), dl_one (by decide) (by decide)]; rfl
  have L1 : (dl (mkRat 4 6).num.natAbs).length ≤ 100000000 := by rw [n1, show (2 : Int).natAbs = 2 from rfl, dl_one (by decide) (by decide)]; decide
  have L2 : (dl (mkRat 4 6).den).length ≤ 100000000 := by rw [n2, dl_one (by decide) (by decide)]; decide
  clear n1 n2
  go_enter Tryz.func21, Tryz.ntmps21
  go_wp2_with fail
  with_reducible refine Calls.kRat (rparse_00p ⟨#[52, 47, 54]⟩ (zn := 4) (dn := 6) hne (by decide) (by decide) (by decide +kernel) (by decide +kernel) (by decide)) ?_
  intro W1 _ g a l c aa ll cc _
  go_wp2_with fail
  with_reducible refine Calls.kErr (rparse_00z ⟨#[49, 47, 48]⟩ (zn := 1) (dn := 0) hne (by decide) (by decide) (by decide +kernel) (by decide +kernel) rfl) ?_
  intros
  go_wp2_with (first
    | (go_at_call 26; (with_reducible refine Calls.cE (ratFormatV (by omega) L1 L2 HF) ?_); intros)
    | (go_at_call 18; (with_reducible refine Calls.cS isSameC ?_)))
  go_ret
  exact E.fin rfl
end Go.Proofs.YtnkfbkdcplbgoaaGreatDoor
