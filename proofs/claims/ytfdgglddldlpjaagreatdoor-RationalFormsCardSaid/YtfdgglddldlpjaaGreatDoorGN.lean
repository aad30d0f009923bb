/-
  Texts of this claim, joined: RTxt.
-/
import Derived.Test.YtfdgglddldlpjaaGreatDoorGL
import Derived.Test.YtfdgglddldlpjaaGreatDoorGM
import Derived.Lib.Bytealg
/- Texts of rational numbers: Format, strings.Cut at a byte, Parse. printed by a small program (mkrtxt.py). -/
namespace Go.Proofs.YtfdgglddldlpjaaGreatDoor
open Go.RowKit
set_option maxRecDepth 100000
set_option maxHeartbeats 40000000
set_option synthInstance.maxSize 100000
set_option synthInstance.maxHeartbeats 1000000

/-- What a rational number is written as. -/
def fmtQ (x : Rat) : ByteArray := if x.den = 1 then decI x.num else decI x.num ++ (⟨#[47]⟩ ++ decStr x.den)
theorem decI_size (x : Int) : (decI x).size ≤ 2 + (dl x.natAbs).length := by
  have := decStr_size x.natAbs
  unfold decI
  split
  · rw [ByteArray.size_append]; show 1 + _ ≤ _; omega
  · omega
theorem rWholeC {w : World} {n1 : Int} {d1 : Int} {p1 : Option Addr} {x : Rat} {k1 : Nat} [h1 : CF w (.agg #[.int .i64 n1, .int .i64 d1, .pointer p1]) x k1] (b : k1 ≤ 900000) :
    Calls Tryz.prog 208 #[.agg #[.int .i64 n1, .int .i64 d1, .pointer p1]] w (fun e w' => e = .returned (.bool (decide (x.den = 1))) ∧ Below w.heap.size w w') := by
  by_cases hx : x.den = 1
  · have HE : Hid (decide (x.den = 1) = true) := by show _ = _; simp [hx]
    rcases CF.cases h1 with ⟨rfl, en1, ed1, bn1, bm1, bd1, be1, bk1⟩ | ⟨rfl, rfl, hq1, q1, G1, A1, L1, C1, AA1, LL1, CC1, rfl, hB1, hZ1, hN1⟩
    · have e0 : (d1 == 0) = true := by rw [show d1 = 0 by omega]; rfl
      clear en1 ed1 hx
      go_enter Tryz.func208, Tryz.ntmps208
      go_wp2_with (first
    | (go_at_call 143; (with_reducible refine Calls.cS (bitsC (by omega)) ?_); intros))
      go_ret
      exact E.fin (by rw [HE.out]; rfl)
    · have e0 : (((nbits x.den : Nat) : Int) == 1) = true := by
        rw [hx]; decide +kernel
      clear hx
      go_enter Tryz.func208, Tryz.ntmps208
      go_wp2_with (first
    | (go_at_call 143; (with_reducible refine Calls.cS (bitsC (by omega)) ?_); intros))
      go_ret
      exact E.fin (by rw [HE.out]; rfl)
  · have HE : Hid (decide (x.den = 1) = false) := by show _ = _; simp [hx]
    rcases CF.cases h1 with ⟨rfl, en1, ed1, bn1, bm1, bd1, be1, bk1⟩ | ⟨rfl, rfl, hq1, q1, G1, A1, L1, C1, AA1, LL1, CC1, rfl, hB1, hZ1, hN1⟩
    · have e0 : (d1 == 0) = false := by rw [beq_eq_false_iff_ne]; omega
      clear en1 ed1 hx
      go_enter Tryz.func208, Tryz.ntmps208
      go_wp2_with (first
    | (go_at_call 143; (with_reducible refine Calls.cS (bitsC (by omega)) ?_); intros))
      go_ret
      exact E.fin (by rw [HE.out]; rfl)
    · have e0 : (((nbits x.den : Nat) : Int) == 1) = false := by
        rw [beq_eq_false_iff_ne]; have := @nbits1 x.den; have := den_pos' x; have := @nbits0 x.den; omega
      clear hx
      go_enter Tryz.func208, Tryz.ntmps208
      go_wp2_with (first
    | (go_at_call 143; (with_reducible refine Calls.cS (bitsC (by omega)) ?_); intros))
      go_ret
      exact E.fin (by rw [HE.out]; rfl)

theorem rStringC {w : World} {n1 : Int} {d1 : Int} {p1 : Option Addr} {x : Rat} {k1 : Nat} [h1 : CF w (.agg #[.int .i64 n1, .int .i64 d1, .pointer p1]) x k1] (b : k1 ≤ 900000) (hl : (dl x.num.natAbs).length ≤ 100000000) (hl2 : (dl x.den).length ≤ 100000000) :
    Calls Tryz.prog 144 #[.agg #[.int .i64 n1, .int .i64 d1, .pointer p1]] w (fun e w' => e = .returned (.string (fmtQ x)) ∧ Below w.heap.size w w') := by
  by_cases hd : x.den = 1
  · have e0 : decide (x.den = 1) = true := by simp [hd]
    have HE : Hid (fmtQ x = decI x.num) := if_pos hd
    clear hd
    go_enter Tryz.func144, Tryz.ntmps144
    go_wp2_with (first
    | (go_at_call 151; (with_reducible refine Calls.cZ (rNumC (by omega)) ?_); intros)
    | (go_at_call 152; (with_reducible refine Calls.cN (rDenC (by omega)) ?_); intros)
    | (go_at_call 207; (with_reducible refine Calls.cE (intFormatC (by omega)) ?_); intros)
    | (go_at_call 209; (with_reducible refine Calls.cE (natFormatC (by omega)) ?_); intros)
    | (go_at_call 208; (with_reducible refine Calls.cE (rWholeC (by omega)) ?_); intros))
    go_ret
    exact E.fin (by rw [HE.out]; rfl)
  · have e0 : decide (x.den = 1) = false := by simp [hd]
    have HE : Hid (fmtQ x = decI x.num ++ (⟨#[47]⟩ ++ decStr x.den)) := if_neg hd
    have s1 := decI_size x.num
    have s2 := decStr_size x.den
    have z1 : (9223372036854775807 < 1 + (decStr x.den).size) ↔ False := ⟨fun h => by omega, False.elim⟩
    have z2 : (9223372036854775807 < (decI x.num).size + (1 + (decStr x.den).size)) ↔ False := ⟨fun h => by omega, False.elim⟩
    clear hd s1 s2
    go_enter Tryz.func144, Tryz.ntmps144
    go_wp2_with (first
    | (go_at_call 151; (with_reducible refine Calls.cZ (rNumC (by omega)) ?_); intros)
    | (go_at_call 152; (with_reducible refine Calls.cN (rDenC (by omega)) ?_); intros)
    | (go_at_call 207; (with_reducible refine Calls.cE (intFormatC (by omega)) ?_); intros)
    | (go_at_call 209; (with_reducible refine Calls.cE (natFormatC (by omega)) ?_); intros)
    | (go_at_call 208; (with_reducible refine Calls.cE (rWholeC (by omega)) ?_); intros))
    go_ret
    exact E.fin (by rw [HE.out]; rfl)

theorem ratFormatC {w : World} {g1 : Bool} {a1 : Option Addr} {l1 : Nat} {c1 : Nat} {aa1 : Option Addr} {ll1 : Nat} {cc1 : Nat} {x : Rat} {k1 : Nat} [h1 : CW w (.agg #[.bool g1, .slice a1 l1 c1, .slice aa1 ll1 cc1]) x k1] (b : k1 ≤ 700000) (hl : (dl x.num.natAbs).length ≤ 100000000) (hl2 : (dl x.den).length ≤ 100000000) :
    Calls Tryz.prog 73 #[.agg #[.bool g1, .slice a1 l1 c1, .slice aa1 ll1 cc1]] w (fun e w' => e = .returned (.string (fmtQ x)) ∧ Below w.heap.size w w') := by
  go_enter Tryz.func73, Tryz.ntmps73
  go_wp2_with (first
    | (go_at_call 78; (with_reducible refine Calls.cF (ofC (by omega)) ?_); intros)
    | (go_at_call 144; (with_reducible refine Calls.cE (rStringC (by omega) hl hl2) ?_); intros))
  go_ret
  exact E.fin rfl

/-- Whether a text has a stroke, and where; the text before it and behind it. -/
def hasSlash (l : List UInt8) : Bool := l.contains 47
def slashAt (l : List UInt8) : Nat := l.findIdx (fun b => b == 47)
def cutL (l : List UInt8) : List UInt8 := if hasSlash l = true then l.take (slashAt l) else l
def cutR (l : List UInt8) : List UInt8 := if hasSlash l = true then l.drop (slashAt l + 1) else []
theorem slash_lt {l : List UInt8} (h : hasSlash l = true) : slashAt l < l.length := by
  unfold slashAt
  rw [List.findIdx_lt_length]
  exact ⟨47, by simpa [hasSlash] using h, by decide⟩
theorem index_slash : ∀ l : List UInt8, Lib.indexByte l 47 = if hasSlash l = true then (slashAt l : Int) else -1
  | [] => rfl
  | b :: l => by
    have ih := index_slash l
    unfold Lib.indexByte
    by_cases hb : (b == 47) = true
    · have e1 : hasSlash (b :: l) = true := by unfold hasSlash; simp [beq_iff_eq.1 hb]
      have e2 : slashAt (b :: l) = 0 := by unfold slashAt; rw [List.findIdx_cons, hb]; rfl
      rw [if_pos hb, if_pos e1, e2]; rfl
    · have hb' : (b == 47) = false := by simpa using hb
      have e1 : hasSlash (b :: l) = hasSlash l := by
        unfold hasSlash
        rw [List.contains_cons]
        have : ((47 : UInt8) == b) = false := by rw [beq_eq_false_iff_ne] at hb' ⊢; exact fun e => hb' e.symm
        rw [this, Bool.false_or]
      have e2 : slashAt (b :: l) = slashAt l + 1 := by unfold slashAt; rw [List.findIdx_cons, hb']; rfl
      rw [if_neg hb, e1, e2, ih]
      by_cases h : hasSlash l = true
      · rw [if_pos h, if_pos h]
        have : (((slashAt l : Nat) : Int) == -1) = false := by rw [beq_eq_false_iff_ne]; omega
        rw [this]; simp
      · rw [if_neg h, if_neg h]; rfl
/-- What strings.Cut returns. -/
def CutRet (w : World) (l : List UInt8) (e : Ending) (w' : World) : Prop :=
  ∃ p q, e = .returned (.tuple #[.string p, .string q, .bool (hasSlash l)]) ∧ p.data.toList = cutL l ∧ q.data.toList = cutR l ∧ Below w.heap.size w w'
theorem cutI (s : ByteArray) (w : World) (hsz : s.size ≤ 1000000000) : Calls Tryz.prog 166 #[.string s, .string ⟨#[47]⟩] w (CutRet w s.data.toList) := by
  have hI := @run_callFunc_extern Tryz.prog 295 _ Extern.BytealgIndexByte.indexByte Tryz.func295 (by kernel_rfl) (by kernel_rfl) (by kernel_rfl) (by kernel_rfl)
  have hix0 : ∀ w, (Instr.index 9 (.string ⟨#[47]⟩) (.int .i64 0)).run Tryz.prog w = .ok (.int .u8 47) w := fun _ => by kernel_rfl
  have hlen := str_len s
  by_cases hS : hasSlash s.data.toList = true
  · have hlt := slash_lt hS
    rw [← hlen] at hlt
    have hv : ∀ w, (Extern.BytealgIndexByte.indexByte #[.string s, .int .u8 47]).run Tryz.prog w = .ok (.int .i64 (slashAt s.data.toList : Nat)) w := fun w => by
      rw [run_indexByte_string, Lib.firstIdx_eq]
      have := index_slash s.data.toList
      rw [if_pos hS] at this
      rw [show (47 : Int).toNat.toUInt8 = 47 from rfl, this]
    have HF : Hid (∃ p q : ByteArray, p = s.extract 0 (slashAt s.data.toList) ∧ q = s.extract (slashAt s.data.toList + 1) s.size ∧ p.data.toList = cutL s.data.toList ∧ q.data.toList = cutR s.data.toList) := by
      refine ⟨_, _, rfl, rfl, ?_, ?_⟩
      · rw [Lib.extract_data, cutL, if_pos hS]; simp
      · rw [Lib.extract_data, cutR, if_pos hS, List.take_of_length_le (by rw [List.length_drop, ← hlen]; omega)]
    have HS := Lib.hid hS
    have hone : (([47] == s.toList) = true ∧ slashAt s.data.toList = 0) ∨ ([47] == s.toList) = false := by
      rw [Lib.toList_data]
      by_cases h : s.data.toList = [47]
      · left; rw [h]; exact ⟨rfl, rfl⟩
      · right; rw [beq_eq_false_iff_ne]; exact fun e => h e.symm
    have hw1 : IntKind.i64.wrap 1 = 1 := by decide
    clear hS hlen
    generalize slashAt s.data.toList = n at *
    rcases hone with ⟨hone, rfl⟩ | hone
    · have hlt2 : (1 : Int) ≤ (s.size : Int) := by omega
      try (have hlt3 : (n : Int) + 1 ≤ (s.size : Int) := by omega)
      try (have hlt4 : n ≤ s.size := by omega)
      try (have hlt5 : IntKind.i64.wrap ((n : Int) + 1) = (n : Int) + 1 := by simp [IntKind.wrap, IntKind.signed, IntKind.bits]; omega)
      try (have hlt6 : (0 : Int) ≤ (n : Int) + 1 := by omega)
      go_enter Tryz.func166, Tryz.ntmps166
      go_wp2
      refine region_cls (by kernel_rfl) [] (fun hHeld => ?_)
      refine wpAnyH_take (i := 0) (v := ?z92) (by simp; rfl) (by kernel_rfl) (by kernel_rfl) (by kernel_rfl) (by exact fun _ _ _ h => h) (Or.inl ⟨by rfl, ?yz92⟩) hHeld ?_
      case yz92 => (intro wx hSw; have hSx := Ex1.mk hSw; go_simp; (try with_reducible rfl))
      try simp only [Act.put, List.setIfInBounds_toArray, List.set_cons_zero, List.set_cons_succ]
      refine wpAnyH_take (i := 1) (v := ?z93) (by simp; rfl) (by kernel_rfl) (by kernel_rfl) (by kernel_rfl) (by exact fun _ _ _ h => h) (Or.inl ⟨by rfl, ?yz93⟩) hHeld ?_
      case yz93 => (intro wx hSw; have hSx := Ex1.mk hSw; go_simp; (try with_reducible rfl))
      try simp only [Act.put, List.setIfInBounds_toArray, List.set_cons_zero, List.set_cons_succ]
      refine wpAnyH_take (i := 2) (v := ?z94) (by simp; rfl) (by kernel_rfl) (by kernel_rfl) (by kernel_rfl) (by exact fun _ _ _ h => h) (Or.inl ⟨by rfl, ?yz94⟩) hHeld ?_
      case yz94 => (intro wx hSw; have hSx := Ex1.mk hSw; go_simp; (try with_reducible rfl))
      try simp only [Act.put, List.setIfInBounds_toArray, List.set_cons_zero, List.set_cons_succ]
      refine wpAnyH_take (i := 3) (v := ?z95) (by simp; rfl) (by kernel_rfl) (by kernel_rfl) (by kernel_rfl) (by exact fun _ _ _ h => h) (Or.inl ⟨by rfl, ?yz95⟩) hHeld ?_
      case yz95 => (intro wx hSw; have hSx := Ex1.mk hSw; go_simp; (try with_reducible rfl))
      try simp only [Act.put, List.setIfInBounds_toArray, List.set_cons_zero, List.set_cons_succ]
      refine wpAnyH_take (i := 4) (v := ?z96) (by simp; rfl) (by kernel_rfl) (by kernel_rfl) (by kernel_rfl) (by exact fun _ _ _ h => h) (Or.inl ⟨by rfl, ?yz96⟩) hHeld ?_
      case yz96 => (intro wx hSw; have hSx := Ex1.mk hSw; go_simp; (try with_reducible rfl))
      try simp only [Act.put, List.setIfInBounds_toArray, List.set_cons_zero, List.set_cons_succ]
      refine wpAnyH_take (i := 5) (v := ?z97) (by simp; rfl) (by kernel_rfl) (by kernel_rfl) (by kernel_rfl) (by exact fun _ _ _ h => h) (Or.inl ⟨by rfl, ?yz97⟩) hHeld ?_
      case yz97 => (intro wx hSw; have hSx := Ex1.mk hSw; go_simp; (try with_reducible rfl))
      try simp only [Act.put, List.setIfInBounds_toArray, List.set_cons_zero, List.set_cons_succ]
      refine wpAnyH_take (i := 6) (v := ?z98) (by simp; rfl) (by kernel_rfl) (by kernel_rfl) (by kernel_rfl) (by exact fun _ _ _ h => h) (Or.inl ⟨by rfl, ?yz98⟩) hHeld ?_
      case yz98 => (intro wx hSw; have hSx := Ex1.mk hSw; go_simp; (try with_reducible rfl))
      try simp only [Act.put, List.setIfInBounds_toArray, List.set_cons_zero, List.set_cons_succ]
      refine wpAnyH_take (i := 7) (v := ?z99) (by simp; rfl) (by kernel_rfl) (by kernel_rfl) (by kernel_rfl) (by exact fun _ _ _ h => h) (Or.inl ⟨by rfl, ?yz99⟩) hHeld ?_
      case yz99 => (intro wx hSw; have hSx := Ex1.mk hSw; go_simp; (try with_reducible rfl))
      try simp only [Act.put, List.setIfInBounds_toArray, List.set_cons_zero, List.set_cons_succ]
      refine wpAnyH_take (i := 8) (v := ?z100) (by simp; rfl) (by kernel_rfl) (by kernel_rfl) (by kernel_rfl) (by exact fun _ _ _ h => h) (Or.inl ⟨by rfl, ?yz100⟩) hHeld ?_
      case yz100 => (intro wx hSw; have hSx := Ex1.mk hSw; go_simp; (try with_reducible rfl))
      try simp only [Act.put, List.setIfInBounds_toArray, List.set_cons_zero, List.set_cons_succ]
      refine wpAnyH_take (i := 9) (v := ?z101) (by simp; rfl) (by kernel_rfl) (by kernel_rfl) (by kernel_rfl) (by exact fun _ _ _ h => h) (Or.inl ⟨by rfl, ?yz101⟩) hHeld ?_
      case yz101 => (intro wx hSw; have hSx := Ex1.mk hSw; go_simp; (try with_reducible rfl))
      try simp only [Act.put, List.setIfInBounds_toArray, List.set_cons_zero, List.set_cons_succ]
      refine wpAnyH_take (i := 10) (v := ?z102) (by simp; rfl) (by kernel_rfl) (by kernel_rfl) (by kernel_rfl) (by exact fun _ _ _ h => h) (Or.inl ⟨by rfl, ?yz102⟩) hHeld ?_
      case yz102 => (intro wx hSw; have hSx := Ex1.mk hSw; go_simp; (try with_reducible rfl))
      try simp only [Act.put, List.setIfInBounds_toArray, List.set_cons_zero, List.set_cons_succ]
      refine wpAnyH_take (i := 11) (v := ?z103) (by simp; rfl) (by kernel_rfl) (by kernel_rfl) (by kernel_rfl) (by exact fun _ _ _ h => h) (Or.inl ⟨by rfl, ?yz103⟩) hHeld ?_
      case yz103 => (intro wx hSw; have hSx := Ex1.mk hSw; go_simp; (try with_reducible rfl))
      try simp only [Act.put, List.setIfInBounds_toArray, List.set_cons_zero, List.set_cons_succ]
      refine wpAnyH_done (by kernel_rfl) ?_ _
      clear hHeld
      go_wp2
      go_ret3
      obtain ⟨p, q, rfl, rfl, h1, h2⟩ := HF.out
      have e00 : s.extract 0 0 = ByteArray.empty := by simp
      first
        | exact ⟨_, _, by rw [HS.out]; rfl, h1, h2, (inferInstance : Kp w _).out⟩
        | (rw [e00] at h1; exact ⟨_, _, by rw [HS.out]; rfl, h1, h2, (inferInstance : Kp w _).out⟩)
    · have hlt2 : (1 : Int) ≤ (s.size : Int) := by omega
      try (have hlt3 : (n : Int) + 1 ≤ (s.size : Int) := by omega)
      try (have hlt4 : n ≤ s.size := by omega)
      try (have hlt5 : IntKind.i64.wrap ((n : Int) + 1) = (n : Int) + 1 := by simp [IntKind.wrap, IntKind.signed, IntKind.bits]; omega)
      try (have hlt6 : (0 : Int) ≤ (n : Int) + 1 := by omega)
      go_enter Tryz.func166, Tryz.ntmps166
      go_wp2
      refine region_cls (by kernel_rfl) [] (fun hHeld => ?_)
      refine wpAnyH_take (i := 0) (v := ?z104) (by simp; rfl) (by kernel_rfl) (by kernel_rfl) (by kernel_rfl) (by exact fun _ _ _ h => h) (Or.inl ⟨by rfl, ?yz104⟩) hHeld ?_
      case yz104 => (intro wx hSw; have hSx := Ex1.mk hSw; go_simp; (try with_reducible rfl))
      try simp only [Act.put, List.setIfInBounds_toArray, List.set_cons_zero, List.set_cons_succ]
      refine wpAnyH_take (i := 1) (v := ?z105) (by simp; rfl) (by kernel_rfl) (by kernel_rfl) (by kernel_rfl) (by exact fun _ _ _ h => h) (Or.inl ⟨by rfl, ?yz105⟩) hHeld ?_
      case yz105 => (intro wx hSw; have hSx := Ex1.mk hSw; go_simp; (try with_reducible rfl))
      try simp only [Act.put, List.setIfInBounds_toArray, List.set_cons_zero, List.set_cons_succ]
      refine wpAnyH_take (i := 2) (v := ?z106) (by simp; rfl) (by kernel_rfl) (by kernel_rfl) (by kernel_rfl) (by exact fun _ _ _ h => h) (Or.inl ⟨by rfl, ?yz106⟩) hHeld ?_
      case yz106 => (intro wx hSw; have hSx := Ex1.mk hSw; go_simp; (try with_reducible rfl))
      try simp only [Act.put, List.setIfInBounds_toArray, List.set_cons_zero, List.set_cons_succ]
      refine wpAnyH_take (i := 3) (v := ?z107) (by simp; rfl) (by kernel_rfl) (by kernel_rfl) (by kernel_rfl) (by exact fun _ _ _ h => h) (Or.inl ⟨by rfl, ?yz107⟩) hHeld ?_
      case yz107 => (intro wx hSw; have hSx := Ex1.mk hSw; go_simp; (try with_reducible rfl))
      try simp only [Act.put, List.setIfInBounds_toArray, List.set_cons_zero, List.set_cons_succ]
      refine wpAnyH_take (i := 4) (v := ?z108) (by simp; rfl) (by kernel_rfl) (by kernel_rfl) (by kernel_rfl) (by exact fun _ _ _ h => h) (Or.inl ⟨by rfl, ?yz108⟩) hHeld ?_
      case yz108 => (intro wx hSw; have hSx := Ex1.mk hSw; go_simp; (try with_reducible rfl))
      try simp only [Act.put, List.setIfInBounds_toArray, List.set_cons_zero, List.set_cons_succ]
      refine wpAnyH_take (i := 5) (v := ?z109) (by simp; rfl) (by kernel_rfl) (by kernel_rfl) (by kernel_rfl) (by exact fun _ _ _ h => h) (Or.inl ⟨by rfl, ?yz109⟩) hHeld ?_
      case yz109 => (intro wx hSw; have hSx := Ex1.mk hSw; go_simp; (try with_reducible rfl))
      try simp only [Act.put, List.setIfInBounds_toArray, List.set_cons_zero, List.set_cons_succ]
      refine wpAnyH_take (i := 6) (v := ?z110) (by simp; rfl) (by kernel_rfl) (by kernel_rfl) (by kernel_rfl) (by exact fun _ _ _ h => h) (Or.inl ⟨by rfl, ?yz110⟩) hHeld ?_
      case yz110 => (intro wx hSw; have hSx := Ex1.mk hSw; go_simp; (try with_reducible rfl))
      try simp only [Act.put, List.setIfInBounds_toArray, List.set_cons_zero, List.set_cons_succ]
      refine wpAnyH_take (i := 7) (v := ?z111) (by simp; rfl) (by kernel_rfl) (by kernel_rfl) (by kernel_rfl) (by exact fun _ _ _ h => h) (Or.inl ⟨by rfl, ?yz111⟩) hHeld ?_
      case yz111 => (intro wx hSw; have hSx := Ex1.mk hSw; go_simp; (try with_reducible rfl))
      try simp only [Act.put, List.setIfInBounds_toArray, List.set_cons_zero, List.set_cons_succ]
      refine wpAnyH_take (i := 8) (v := ?z112) (by simp; rfl) (by kernel_rfl) (by kernel_rfl) (by kernel_rfl) (by exact fun _ _ _ h => h) (Or.inl ⟨by rfl, ?yz112⟩) hHeld ?_
      case yz112 => (intro wx hSw; have hSx := Ex1.mk hSw; go_simp; (try with_reducible rfl))
      try simp only [Act.put, List.setIfInBounds_toArray, List.set_cons_zero, List.set_cons_succ]
      refine wpAnyH_take (i := 9) (v := ?z113) (by simp; rfl) (by kernel_rfl) (by kernel_rfl) (by kernel_rfl) (by exact fun _ _ _ h => h) (Or.inl ⟨by rfl, ?yz113⟩) hHeld ?_
      case yz113 => (intro wx hSw; have hSx := Ex1.mk hSw; go_simp; (try with_reducible rfl))
      try simp only [Act.put, List.setIfInBounds_toArray, List.set_cons_zero, List.set_cons_succ]
      refine wpAnyH_take (i := 10) (v := ?z114) (by simp; rfl) (by kernel_rfl) (by kernel_rfl) (by kernel_rfl) (by exact fun _ _ _ h => h) (Or.inl ⟨by rfl, ?yz114⟩) hHeld ?_
      case yz114 => (intro wx hSw; have hSx := Ex1.mk hSw; go_simp; (try with_reducible rfl))
      try simp only [Act.put, List.setIfInBounds_toArray, List.set_cons_zero, List.set_cons_succ]
      refine wpAnyH_take (i := 11) (v := ?z115) (by simp; rfl) (by kernel_rfl) (by kernel_rfl) (by kernel_rfl) (by exact fun _ _ _ h => h) (Or.inl ⟨by rfl, ?yz115⟩) hHeld ?_
      case yz115 => (intro wx hSw; have hSx := Ex1.mk hSw; go_simp; (try with_reducible rfl))
      try simp only [Act.put, List.setIfInBounds_toArray, List.set_cons_zero, List.set_cons_succ]
      refine wpAnyH_done (by kernel_rfl) ?_ _
      clear hHeld
      go_wp2
      go_ret3
      obtain ⟨p, q, rfl, rfl, h1, h2⟩ := HF.out
      have e00 : s.extract 0 0 = ByteArray.empty := by simp
      first
        | exact ⟨_, _, by rw [HS.out]; rfl, h1, h2, (inferInstance : Kp w _).out⟩
        | (rw [e00] at h1; exact ⟨_, _, by rw [HS.out]; rfl, h1, h2, (inferInstance : Kp w _).out⟩)
  · have hv : ∀ w, (Extern.BytealgIndexByte.indexByte #[.string s, .int .u8 47]).run Tryz.prog w = .ok (.int .i64 (-1)) w := fun w => by
      rw [run_indexByte_string, Lib.firstIdx_eq]
      have := index_slash s.data.toList
      rw [if_neg hS] at this
      rw [show (47 : Int).toNat.toUInt8 = 47 from rfl, this]
    have h1 : Hid (s.data.toList = cutL s.data.toList) := by show _ = _; rw [cutL, if_neg hS]
    have h2 : Hid ((⟨#[]⟩ : ByteArray).data.toList = cutR s.data.toList) := by show _ = _; rw [cutR, if_neg hS]
    have HS : Hid (hasSlash s.data.toList = false) := by show _ = _; simpa using hS
    have hone : ([47] == s.toList) = false := by
      rw [Lib.toList_data, beq_eq_false_iff_ne]
      intro e
      rw [← e] at hS
      exact hS rfl
    clear hS hlen
    go_enter Tryz.func166, Tryz.ntmps166
    go_wp2
    go_ret3
    exact ⟨_, _, by rw [HS.out]; rfl, h1.out, h2.out, (inferInstance : Kp w _).out⟩
theorem cutC (s : ByteArray) (w : World) (hsz : s.size ≤ 1000000000) : Calls Tryz.prog 98 #[.string s, .string ⟨#[47]⟩] w (CutRet w s.data.toList) := by
  go_enter Tryz.func98, Tryz.ntmps98
  go_wp2_with (go_at_call 166; refine (cutI s w hsz).mono ?_; rintro e w' ⟨p, q, rfl, h1, h2, hb⟩)
  go_ret3
  exact ⟨_, _, rfl, h1, h2, hb⟩
end Go.Proofs.YtfdgglddldlpjaaGreatDoor
