/-
  Texts of this claim, joined: RKnown, Rdk, Rdq, RTq, Pt0.
-/
import Derived.Test.YtdlnoeegboapkaaGreatDoorGQ
import Derived.Test.YtdlnoeegboapkaaGreatDoorGP
import Derived.Test.YtdlnoeegboapkaaGreatDoorGM
import Derived.Test.YtdlnoeegboapkaaGreatDoorGF
/- The sanity check of layer 3. printed by a small program (mkrtxt.py). -/
namespace Go.Proofs.YtdlnoeegboapkaaGreatDoor
open Go.RowKit

theorem ratFormatV {w : World} {g1 : Bool} {a1 : Option Addr} {l1 c1 : Nat} {aa1 : Option Addr} {ll1 cc1 : Nat} {x : Rat} {k1 : Nat} {s : ByteArray} [h1 : CW w (.agg #[.bool g1, .slice a1 l1 c1, .slice aa1 ll1 cc1]) x k1] (b : k1 ≤ 700000) (hl : (dl x.num.natAbs).length ≤ 100000000) (hl2 : (dl x.den).length ≤ 100000000) (hs : Hid (fmtQ x = s)) :
    Calls Tryz.prog 68 #[.agg #[.bool g1, .slice a1 l1 c1, .slice aa1 ll1 cc1]] w (fun e w' => e = .returned (.string s) ∧ Below w.heap.size w w') := by
  rw [← hs.out]
  exact ratFormatC b hl hl2
theorem dl_one {n : Nat} (h0 : n ≠ 0) (h : n < 10) : dl n = [n] := by
  rw [dl_pos h0, show n / 10 = 0 by omega, dl_zero, show n % 10 = n by omega]
end Go.Proofs.YtdlnoeegboapkaaGreatDoor

/- The reference's texts: num.Format, ref01.ReadI, ref01.ReadQ. printed by a small program (mkrdk.py). -/
namespace Go.Proofs.YtdlnoeegboapkaaGreatDoor
open Go.RowKit
set_option maxRecDepth 100000
set_option maxHeartbeats 40000000
set_option synthInstance.maxSize 100000
set_option synthInstance.maxHeartbeats 1000000

theorem pk2 {l : List UInt8} (h : pKind l = 2) : 4096 < l.length := by
  unfold pKind at h
  split at h
  · exact absurd h (by decide)
  · split at h
    · assumption
    · exact absurd h (by decide)
/-- What ref01.ReadN returns, its kind known. -/
def ReadKRet (w : World) (v k : Nat) (e : Ending) (w' : World) : Prop := ∃ a n c, e = .returned (.tuple #[.slice a n c, .int .i64 ((k : Nat) : Int)]) ∧ CN w' (.slice a n c) v 4097 ∧ Below w.heap.size w w'
theorem readKC {s : ByteArray} {w : World} (hsz : s.size ≤ 1000000000) {v k : Nat} (hk : pKind s.data.toList = k) (hv : (if k = 0 then bval s.data.toList else 0) = v) : Calls Tryz.prog 74 #[.string s] w (ReadKRet w v k) := by
  subst hk; subst hv
  exact readNC s w hsz
theorem Calls.kReadK {P : Program} {f : FuncId} {args : Array Value} {w : World} {v k : Nat} {K : Ending → World → Prop} (h : Calls P f args w (ReadKRet w v k))
    (hK : ∀ w' [Kp1 w w'] a n c [CN w' (.slice a n c) v 4097], K (.returned (.tuple #[.slice a n c, .int .i64 ((k : Nat) : Int)])) w') : Calls P f args w K := by
  refine h.mono ?_
  rintro e w' ⟨a, n, c, rfl, hx, hb⟩
  exact @hK w' ⟨hb⟩ a n c hx
theorem dl_val {l : List Nat} (h : Dig l) (hl : l.length ≤ 20) : (dl (val l)).length ≤ 200 := by
  refine dl_len (Nat.lt_of_lt_of_le (val_lt l h) (Nat.le_trans (Nat.pow_le_pow_right (by omega) hl) ?_))
  decide +kernel
theorem dec_kind {n : Nat} (h : (dl n).length ≤ 4000) : pKind (decStr n).data.toList = 0 ∧ bval (decStr n).data.toList = n := by
  rw [decStr_data]
  refine ⟨?_, bval_decL n⟩
  unfold pKind
  have h1 := decL_len n
  rw [if_neg, if_neg]
  · omega
  · rintro (h2 | ⟨b, hb, h2⟩)
    · exact decL_ne n h2
    · rw [decL_isD n b hb] at h2; cases h2
theorem numFormatZ {w : World} {g1 : Bool} {a1 : Option Addr} {l1 c1 : Nat} {x : Int} {k1 : Nat} [h1 : CZ w (.agg #[.bool g1, .slice a1 l1 c1]) x k1] (b : k1 ≤ 100000 ∧ (dl x.natAbs).length ≤ 1000000) :
    Calls Tryz.prog 69 #[.agg #[.bool g1, .slice a1 l1 c1, .slice none 0 0]] w fun e w' => e = .returned (.string (decI x)) ∧ Below w.heap.size w w' := by
  have i2 : CN w (.slice a1 l1 c1) x.natAbs k1 := ⟨(zz_of h1).2⟩
  have hg := (zz_of h1).1
  have hsz0 := decStr_size x.natAbs
  have hsz : (9223372036854775807 < 1 + (decStr x.natAbs).size) ↔ False := ⟨fun h => by omega, False.elim⟩
  clear hsz0 h1
  by_cases hx : x < 0
  · have HD : Hid (decI x = ⟨#[45]⟩ ++ decStr x.natAbs) := if_pos hx
    obtain rfl : g1 = true := by rw [hg]; simp [hx]
    clear hx hg
    go_enter Tryz.func69, Tryz.ntmps69
    go_wp2_with (go_at_call 136; (with_reducible refine Calls.cE (numTextC (by omega)) ?_); intros)
    go_ret
    exact E.fin (by rw [HD.out]; rfl)
  · have HD : Hid (decI x = decStr x.natAbs) := if_neg hx
    obtain rfl : g1 = false := by rw [hg]; simp [hx]
    clear hx hg
    go_enter Tryz.func69, Tryz.ntmps69
    go_wp2_with (go_at_call 136; (with_reducible refine Calls.cE (numTextC (by omega)) ?_); intros)
    go_ret
    exact E.fin (by rw [HD.out]; rfl)
/-- What ref01.ReadI returns, its kind known. -/
def ReadIRet (w : World) (z : Int) (k : Nat) (e : Ending) (w' : World) : Prop := ∃ g a n c, e = .returned (.tuple #[.agg #[.bool g, .slice a n c], .int .i64 ((k : Nat) : Int)]) ∧ CZ w' (.agg #[.bool g, .slice a n c]) z 4097 ∧ Below w.heap.size w w'
theorem Calls.kReadI {P : Program} {f : FuncId} {args : Array Value} {w : World} {z : Int} {k : Nat} {K : Ending → World → Prop} (h : Calls P f args w (ReadIRet w z k))
    (hK : ∀ w' [Kp1 w w'] g a n c [CZ w' (.agg #[.bool g, .slice a n c]) z 4097], K (.returned (.tuple #[.agg #[.bool g, .slice a n c], .int .i64 ((k : Nat) : Int)])) w') : Calls P f args w K := by
  refine h.mono ?_
  rintro e w' ⟨g, a, n, c, rfl, hx, hb⟩
  exact @hK w' ⟨hb⟩ g a n c hx
theorem readIC {w : World} {s : ByteArray} (hsz : s.size ≤ 1000000000) {k : Nat} {z : Int} (hk : pKind (iDig s.data.toList) = k) (hz : sgn (iNeg s.data.toList) (if k = 0 then bval (iDig s.data.toList) else 0) = z) :
    Calls Tryz.prog 72 #[.string s] w (ReadIRet w z k) := by
  have hlen := str_len s
  by_cases hn : iNeg s.data.toList = true
  · rw [hn] at hz
    obtain ⟨t, ht⟩ : ∃ t, s.data.toList = 45 :: t := by
      cases hx : s.data.toList with
      | nil => rw [hx] at hn; cases hn
      | cons b t =>
        rw [hx] at hn
        exact ⟨t, by rw [of_decide_eq_true hn]⟩
    have hs1 : 1 ≤ s.size := by rw [hlen, ht]; simp
    have hs0 : 0 < s.size := hs1
    have e45 : (((s[0]'hs0).toNat : Int) == 45) = true := by
      rw [byteAt_eq]; unfold byteAt; rw [ht]; rfl
    have hee : s.toList.isEmpty = false := by rw [Lib.toList_data, ht]; rfl
    have hdr : (s.extract 1 s.size).data.toList = iDig s.data.toList := by
      rw [Lib.extract_data, iDig, if_pos hn, List.take_of_length_le (by rw [List.length_drop, ← hlen]; omega)]
    have hds : (s.extract 1 s.size).size ≤ 1000000000 := by rw [str_len, hdr, iDig, if_pos hn, List.length_drop, ← hlen]; omega
    rw [← hdr] at hk hz
    have HK := Lib.hid hk
    have HZ := Lib.hid hz
    clear hn ht hlen hdr hk hz
    go_enter Tryz.func72, Tryz.ntmps72
    go_wp2_with (first
      | (go_at_call 74; (with_reducible refine Calls.kReadK (readKC hds HK.out rfl) ?_); intros)
      | (go_at_call 119; (with_reducible refine Calls.cSg makeC ?_); intros))
    refine ret_bt rfl Tryz.underlying43 rfl (by kernel_rfl) rfl rfl rfl ?_
    exact ⟨_, _, _, _, rfl, CZ.cast inferInstance HZ.out (Nat.le_refl _), (inferInstance : Kp w _).out⟩
  · have hn' : iNeg s.data.toList = false := by simpa using hn
    rw [hn'] at hz
    have hdr : iDig s.data.toList = s.data.toList := by unfold iDig; rw [if_neg hn]
    rw [hdr] at hk hz
    have HK := Lib.hid hk
    have HZ := Lib.hid hz
    clear hdr hk hz
    by_cases he : s.data.toList = []
    · have hee : s.toList.isEmpty = true := by rw [Lib.toList_data, he]; rfl
      clear hn hn' hlen he
      go_enter Tryz.func72, Tryz.ntmps72
      go_wp2_with (first
        | (go_at_call 74; (with_reducible refine Calls.kReadK (readKC hsz HK.out rfl) ?_); intros)
        | (go_at_call 119; (with_reducible refine Calls.cSg makeC ?_); intros))
      refine ret_bt rfl Tryz.underlying43 rfl (by kernel_rfl) rfl rfl rfl ?_
      exact ⟨_, _, _, _, rfl, CZ.cast inferInstance HZ.out (Nat.le_refl _), (inferInstance : Kp w _).out⟩
    · have hee : s.toList.isEmpty = false := by
        rw [Lib.toList_data]
        cases hx : s.data.toList with
        | nil => exact absurd hx he
        | cons => rfl
      have hs1 : 1 ≤ s.size := by
        rw [hlen]
        cases hx : s.data.toList with
        | nil => exact absurd hx he
        | cons => simp
      have hs0 : 0 < s.size := hs1
      have h45 : (byteAt s 0).toNat ≠ 45 := by
        unfold byteAt
        cases hx : s.data.toList with
        | nil => exact absurd hx he
        | cons b t =>
          rw [hx] at hn'
          have h2 : b ≠ 45 := of_decide_eq_false hn'
          intro h3
          exact h2 (UInt8.toNat_inj.1 h3)
      have e45 : (((s[0]'hs0).toNat : Int) == 45) = false := by rw [beq_eq_false_iff_ne, byteAt_eq]; omega
      clear hn hn' hlen he h45
      go_enter Tryz.func72, Tryz.ntmps72
      go_wp2_with (first
        | (go_at_call 74; (with_reducible refine Calls.kReadK (readKC hsz HK.out rfl) ?_); intros)
        | (go_at_call 119; (with_reducible refine Calls.cSg makeC ?_); intros))
      refine ret_bt rfl Tryz.underlying43 rfl (by kernel_rfl) rfl rfl rfl ?_
      exact ⟨_, _, _, _, rfl, CZ.cast inferInstance HZ.out (Nat.le_refl _), (inferInstance : Kp w _).out⟩

theorem IsRow.keep {k : IntKind} {w w' : World} {a : Option Addr} {len cap : Nat} {zs : List Int} (h : IsRow k w a len cap zs) (hb : Below w.heap.size w w') : IsRow k w' a len cap zs := by
  rcases h with h | ⟨x, h1, h2, h3, h4, h5, h6⟩
  · exact .inl h
  · exact .inr ⟨x, h1, h2, h3, h4, fun i hi => (hb.cell (lt_of_cell (h5 i hi))).trans (h5 i hi), h6⟩
theorem ci_dl {W : World} {g : Bool} {a : Option Addr} {l c : Nat} {x : Int} {k : Nat} (h : CI W (.agg #[.bool g, .slice a l c]) x k) (hk : k ≤ 20) : (dl x.natAbs).length ≤ 200 := by
  obtain ⟨m, ⟨L, h1, rfl, h2⟩, rfl⟩ := zi_of h
  rw [sgn_abs]
  exact dl_val h1.dig (by omega)
theorem decI_size2 (x : Int) : (decI x).size ≤ 2 + (dl x.natAbs).length := by
  have h := decStr_size x.natAbs
  unfold decI
  split
  · rw [ByteArray.size_append]
    have : (⟨#[45]⟩ : ByteArray).size = 1 := rfl
    omega
  · omega
theorem decI_data (x : Int) : (decI x).data.toList = if x < 0 then 45 :: decL x.natAbs else decL x.natAbs := by
  unfold decI
  split
  · rw [ByteArray.data_append, Array.toList_append, decStr_data]; rfl
  · exact decStr_data _
theorem dec_kindI {x : Int} (h : (dl x.natAbs).length ≤ 4000) : pKind (iDig (decI x).data.toList) = 0 ∧ iVal (decI x).data.toList = x := by
  have hd := dec_kind h
  rw [decStr_data] at hd
  rw [decI_data]
  by_cases hx : x < 0
  · rw [if_pos hx]
    refine ⟨hd.1, ?_⟩
    show sgn true (bval (decL x.natAbs)) = x
    rw [hd.2]
    show -((x.natAbs : Nat) : Int) = x
    omega
  · rw [if_neg hx]
    have hneg : iNeg (decL x.natAbs) = false := by
      have h1 := decL_isD x.natAbs
      cases hL : decL x.natAbs with
      | nil => rfl
      | cons b t =>
        rw [hL] at h1
        have h2 := (isD_bd (h1 b (List.mem_cons_self ..))).2.1
        show decide (b = 45) = false
        refine decide_eq_false fun h3 => ?_
        subst h3
        exact absurd h2 (by decide)
    have hdg : iDig (decL x.natAbs) = decL x.natAbs := by unfold iDig; rw [hneg]; rfl
    rw [hdg]
    refine ⟨hd.1, ?_⟩
    unfold iVal
    rw [hneg, hdg, hd.2]
    show ((x.natAbs : Nat) : Int) = x
    omega
theorem iDig_len (l : List UInt8) : (iDig l).length ≤ l.length := by
  unfold iDig
  split
  · rw [List.length_drop]; omega
  · exact Nat.le_refl _
theorem numFormatQ {w : World} {g1 : Bool} {a1 aa1 : Option Addr} {l1 c1 ll1 cc1 : Nat} {x : Rat} {k1 : Nat} [h1 : CQ w (.agg #[.bool g1, .slice a1 l1 c1, .slice aa1 ll1 cc1]) x k1] (b : k1 ≤ 100000 ∧ (dl x.num.natAbs).length ≤ 1000000 ∧ (dl x.den).length ≤ 1000000) :
    Calls Tryz.prog 69 #[.agg #[.bool g1, .slice a1 l1 c1, .slice aa1 ll1 cc1]] w fun e w' => e = .returned (.string (fmtQ x)) ∧ Below w.heap.size w w' := by
  have hz := h1.num
  have i2 : CN w (.slice a1 l1 c1) x.num.natAbs k1 := ⟨(zz_of hz).2⟩
  have hg := (zz_of hz).1
  have i3 := h1.den
  have hl3 := i3.out.len
  obtain ⟨b1, b2, b3⟩ := b
  have hd1 := decStr_size x.num.natAbs
  have hd2 := decStr_size x.den
  have hd3 := decI_size2 x.num
  have hs1 : (9223372036854775807 < 1 + (decStr x.num.natAbs).size) ↔ False := ⟨fun h => by omega, False.elim⟩
  have hs2 : (9223372036854775807 < 1 + (decStr x.den).size) ↔ False := ⟨fun h => by omega, False.elim⟩
  clear hz h1 hd3
  by_cases hx : x.num < 0
  · obtain rfl : g1 = true := by rw [hg]; simp [hx]
    have HI : Hid (decI x.num = ⟨#[45]⟩ ++ decStr x.num.natAbs) := if_pos hx
    clear hx hg
    by_cases hden : x.den = 1
    · have HF : Hid (fmtQ x = decI x.num) := if_pos hden
      rw [if_pos hden] at hl3
      obtain rfl : ll1 = 0 := hl3
      clear hden i3
      go_enter Tryz.func69, Tryz.ntmps69
      go_wp2_with (go_at_call 136; (with_reducible refine Calls.cE (numTextC (by omega)) ?_); intros)
      go_ret
      exact E.fin (by rw [HF.out, HI.out]; rfl)
    · have HF : Hid (fmtQ x = decI x.num ++ (⟨#[47]⟩ ++ decStr x.den)) := if_neg hden
      rw [if_neg hden] at hl3
      have hl0 : 0 < ll1 := by rw [hl3]; exact nf_len_pos x.den_nz
      have hl4 : ll1 ≤ k1 := by have := i3.out.2; rw [if_neg hden] at this; omega
      have i4 : CN w (.slice aa1 ll1 cc1) x.den k1 := i3.cast (if_neg hden) (Nat.le_refl _)
      have hs3 : (9223372036854775807 < 1 + (decStr x.num.natAbs).size + (1 + (decStr x.den).size)) ↔ False := ⟨fun h => by omega, False.elim⟩
      clear hden i3 hl3
      go_enter Tryz.func69, Tryz.ntmps69
      go_wp2_with (go_at_call 136; (with_reducible refine Calls.cE (numTextC (by omega)) ?_); intros)
      go_ret
      exact E.fin (by rw [HF.out, HI.out]; rfl)
  · obtain rfl : g1 = false := by rw [hg]; simp [hx]
    have HI : Hid (decI x.num = decStr x.num.natAbs) := if_neg hx
    clear hx hg
    by_cases hden : x.den = 1
    · have HF : Hid (fmtQ x = decI x.num) := if_pos hden
      rw [if_pos hden] at hl3
      obtain rfl : ll1 = 0 := hl3
      clear hden i3
      go_enter Tryz.func69, Tryz.ntmps69
      go_wp2_with (go_at_call 136; (with_reducible refine Calls.cE (numTextC (by omega)) ?_); intros)
      go_ret
      exact E.fin (by rw [HF.out, HI.out]; rfl)
    · have HF : Hid (fmtQ x = decI x.num ++ (⟨#[47]⟩ ++ decStr x.den)) := if_neg hden
      rw [if_neg hden] at hl3
      have hl0 : 0 < ll1 := by rw [hl3]; exact nf_len_pos x.den_nz
      have hl4 : ll1 ≤ k1 := by have := i3.out.2; rw [if_neg hden] at this; omega
      have i4 : CN w (.slice aa1 ll1 cc1) x.den k1 := i3.cast (if_neg hden) (Nat.le_refl _)
      have hs3 : (9223372036854775807 < (decStr x.num.natAbs).size + (1 + (decStr x.den).size)) ↔ False := ⟨fun h => by omega, False.elim⟩
      clear hden i3 hl3
      go_enter Tryz.func69, Tryz.ntmps69
      go_wp2_with (go_at_call 136; (with_reducible refine Calls.cE (numTextC (by omega)) ?_); intros)
      go_ret
      exact E.fin (by rw [HF.out, HI.out]; rfl)
end Go.Proofs.YtdlnoeegboapkaaGreatDoor

/- ref01.ReadQ. -/
namespace Go.Proofs.YtdlnoeegboapkaaGreatDoor
open Go.RowKit
set_option maxRecDepth 100000
set_option maxHeartbeats 40000000
set_option synthInstance.maxSize 100000
set_option synthInstance.maxHeartbeats 1000000

/-- The place of the first stroke from j on (the length, if there is none). -/
def atL (l : List UInt8) (j : Nat) : Nat := j + (l.drop j).findIdx (fun b => b == 47)
theorem atL_end (l : List UInt8) : atL l l.length = l.length := by unfold atL; rw [List.drop_length]; rfl
theorem atL_zero (l : List UInt8) : atL l 0 = slashAt l := by unfold atL slashAt; rw [Nat.zero_add]; rfl
theorem atL_step {s : ByteArray} {j : Nat} (h : j < s.size) : atL s.data.toList j = if byteAt s j = 47 then j else atL s.data.toList (j + 1) := by
  have hl : j < s.data.toList.length := by rw [← str_len]; exact h
  have e : s.data.toList[j] = byteAt s j := by unfold byteAt; rw [List.getD_eq_getElem?_getD, List.getElem?_eq_getElem hl]; rfl
  unfold atL
  rw [List.drop_eq_getElem_cons hl, List.findIdx_cons, e]
  by_cases hb : byteAt s j = 47
  · rw [if_pos hb, hb]; rfl
  · have h2 : (byteAt s j == 47) = false := by simpa using hb
    rw [if_neg hb, h2]
    show j + (_ + 1) = j + 1 + _
    omega
theorem slash_none {l : List UInt8} (h : hasSlash l = false) : slashAt l = l.length := by
  unfold slashAt
  rw [List.findIdx_eq_length]
  intro b hb
  unfold hasSlash at h
  cases hx : b == 47 with
  | false => rfl
  | true =>
    rw [beq_iff_eq.1 hx] at hb
    rw [List.contains_eq_mem, decide_eq_true hb] at h
    cases h
/-- What ref01.ReadQ returns: a number and a kind. -/
def ReadQRet (w : World) (q : Rat) (k : Nat) (e : Ending) (w' : World) : Prop :=
  ∃ g a l c aa ll cc, e = .returned (.tuple #[.agg #[.bool g, .slice a l c, .slice aa ll cc], .int .i64 ((k : Nat) : Int)]) ∧ CQ w' (.agg #[.bool g, .slice a l c, .slice aa ll cc]) q 9000 ∧ Below w.heap.size w w'
theorem Calls.kReadQ {P : Program} {f : FuncId} {args : Array Value} {w : World} {q : Rat} {k : Nat} {K : Ending → World → Prop} (h : Calls P f args w (ReadQRet w q k))
    (hK : ∀ w' [Kp1 w w'] g a l c aa ll cc [CQ w' (.agg #[.bool g, .slice a l c, .slice aa ll cc]) q 9000], K (.returned (.tuple #[.agg #[.bool g, .slice a l c, .slice aa ll cc], .int .i64 ((k : Nat) : Int)])) w') : Calls P f args w K := by
  refine h.mono ?_
  rintro e w' ⟨g, a, l, c, aa, ll, cc, rfl, hx, hb⟩
  exact @hK w' ⟨hb⟩ g a l c aa ll cc hx
/-- No stroke. -/
theorem readQ_n {w : World} {s : ByteArray} (hsz : s.size ≤ 4000) (hh : hasSlash s.data.toList = false) {k : Nat} {q : Rat} {z : Int} (hk : pKind (iDig s.data.toList) = k) (hk2 : k < 2) (hz : sgn (iNeg s.data.toList) (if k = 0 then bval (iDig s.data.toList) else 0) = z)
    (hq : q = if k = 0 then mkRat z 1 else 0) : Calls Tryz.prog 19 #[.string s] w (ReadQRet w q k) := by
  have HLEN := Lib.hid (str_len s)
  have HAT : Hid (atL s.data.toList 0 = s.size) := by show _ = _; rw [atL_zero, slash_none hh, HLEN.out]
  have HEND : Hid (atL s.data.toList s.size = s.size) := by show _ = _; rw [HLEN.out, atL_end]
  have HK := Lib.hid hk
  have HZ := Lib.hid hz
  have HQ := Lib.hid hq
  clear hk hz hq hh
  go_enter Tryz.func19, Tryz.ntmps19
  go_wp2_with fail
  go_loop [4, 5] (fun av iv => ∃ j : Nat, j ≤ s.size ∧ iv = .int .i64 ((j : Int) - 1) ∧ av = .int .i64 ((atL s.data.toList j : Nat) : Int)) (fun _ iv => (intOf iv + 1).toNat)
  case atStart => exact ⟨s.size, Nat.le_refl _, rfl, by rw [HEND.out]⟩
  case round =>
    obtain ⟨j, hj, rfl, rfl⟩ := hrel
    by_cases h0 : 0 < j
    · obtain ⟨i, rfl⟩ : ∃ i, j = i + 1 := ⟨j - 1, by omega⟩
      have hlt : i < s.size := by omega
      have hix := ix_str s i hlt
      have hst := atL_step hlt
      have ei : (((i + 1 : Nat) : Int) - 1) = i := by omega
      rw [ei]
      by_cases hb : byteAt s i = 47
      · rw [if_pos hb] at hst
        have HST := Lib.hid hst
        have hb2 : (((byteAt s i).toNat : Int) == 47) = true := by rw [hb]; rfl
        clear hb hst
        go_wp2
        go_round
        case rel => exact ⟨i, by omega, rfl, by rw [HST.out]⟩
        case measure => simp [intOf]
      · rw [if_neg hb] at hst
        have HST := Lib.hid hst
        have hb2 : (((byteAt s i).toNat : Int) == 47) = false := by
          rw [beq_eq_false_iff_ne]
          intro h
          exact hb (UInt8.toNat_inj.1 (by show _ = 47; omega))
        clear hb hst
        go_wp2
        go_round
        case rel => exact ⟨i, by omega, rfl, by rw [HST.out]⟩
        case measure => simp [intOf]
    · obtain rfl : j = 0 := by omega
      rw [HAT.out]
      clear HAT HEND HLEN
      go_wp2_with fail
      with_reducible refine Calls.kReadI (readIC (by omega) HK.out HZ.out) ?_
      intro W1 _ g1 a1 n1 c1 _
      go_wp2_with fail
      with_reducible refine Calls.cN oneC ?_
      intro W2 _ a2 l2 c2 i2
      obtain rfl : l2 = 1 := i2.out.len
      obtain rfl | rfl : k = 0 ∨ k = 1 := by omega
      · have hq : q = mkRat z 1 := HQ.out
        subst hq
        go_wp2_with (go_at_call 75; (with_reducible refine Calls.cQ (numFracC (by omega) (by decide)) ?_); intros)
        refine ret_bt rfl Tryz.underlying45 rfl (by kernel_rfl) rfl rfl rfl ?_
        exact ⟨_, _, _, _, _, _, _, rfl, CQ.cast inferInstance rfl (by omega), (inferInstance : Kp w _).out⟩
      · have hq : q = 0 := HQ.out
        subst hq
        go_wp2_with fail
        refine ret_bt rfl Tryz.underlying45 rfl (by kernel_rfl) rfl rfl rfl ?_
        exact ⟨_, _, _, _, _, _, _, rfl, CQ.cast inferInstance rfl (by omega), (inferInstance : Kp w _).out⟩
/-- A stroke. -/
theorem readQ_s {w : World} {s : ByteArray} (hsz : s.size ≤ 4000) (hh : hasSlash s.data.toList = true) {e f d k : Nat} {q : Rat} {z : Int} (he : pKind (iDig (cutL s.data.toList)) = e) (he2 : e < 2) (hz : sgn (iNeg (cutL s.data.toList)) (if e = 0 then bval (iDig (cutL s.data.toList)) else 0) = z)
    (hf : pKind (cutR s.data.toList) = f) (hf2 : f < 2) (hd : (if f = 0 then bval (cutR s.data.toList) else 0) = d)
    (hq : q = if e = 0 ∧ f = 0 ∧ d ≠ 0 then mkRat z d else 0) (hk : k = if e = 1 ∨ f = 1 then 1 else if d = 0 then 3 else 0) : Calls Tryz.prog 19 #[.string s] w (ReadQRet w q k) := by
  have HLEN := Lib.hid (str_len s)
  have hp := slash_lt hh
  have hp1 : slashAt s.data.toList < s.size := by rw [HLEN.out]; exact hp
  have hL : (s.extract 0 (slashAt s.data.toList)).data.toList = cutL s.data.toList := by
    rw [Lib.extract_data, cutL, if_pos hh, List.drop_zero, Nat.sub_zero]
  have hR : (s.extract (slashAt s.data.toList + 1) s.size).data.toList = cutR s.data.toList := by
    rw [Lib.extract_data, cutR, if_pos hh, List.take_of_length_le (by rw [List.length_drop, ← HLEN.out]; omega)]
  have HAT : Hid (atL s.data.toList 0 = slashAt s.data.toList) := by show _ = _; rw [atL_zero]
  have HEND : Hid (atL s.data.toList s.size = s.size) := by show _ = _; rw [HLEN.out, atL_end]
  rw [← hL] at he hz
  rw [← hR] at hf hd
  have hs1 : (s.extract 0 (slashAt s.data.toList)).size ≤ 4000 := by rw [str_len, hL]; have := cutL_len s.data.toList; have := HLEN.out; omega
  have hs2 : (s.extract (slashAt s.data.toList + 1) s.size).size ≤ 4000 := by rw [str_len, hR]; have := cutR_len s.data.toList; have := HLEN.out; omega
  have HE := Lib.hid he
  have HZ := Lib.hid hz
  have HF := Lib.hid hf
  have HD := Lib.hid hd
  have HQ := Lib.hid hq
  have HK := Lib.hid hk
  clear he hz hf hd hq hk hh hL hR hp
  generalize slashAt s.data.toList = p at *
  go_enter Tryz.func19, Tryz.ntmps19
  go_wp2_with fail
  go_loop [4, 5] (fun av iv => ∃ j : Nat, j ≤ s.size ∧ iv = .int .i64 ((j : Int) - 1) ∧ av = .int .i64 ((atL s.data.toList j : Nat) : Int)) (fun _ iv => (intOf iv + 1).toNat)
  case atStart => exact ⟨s.size, Nat.le_refl _, rfl, by rw [HEND.out]⟩
  case round =>
    obtain ⟨j, hj, rfl, rfl⟩ := hrel
    by_cases h0 : 0 < j
    · obtain ⟨i, rfl⟩ : ∃ i, j = i + 1 := ⟨j - 1, by omega⟩
      have hlt : i < s.size := by omega
      have hix := ix_str s i hlt
      have hst := atL_step hlt
      have ei : (((i + 1 : Nat) : Int) - 1) = i := by omega
      rw [ei]
      by_cases hb : byteAt s i = 47
      · rw [if_pos hb] at hst
        have HST := Lib.hid hst
        have hb2 : (((byteAt s i).toNat : Int) == 47) = true := by rw [hb]; rfl
        clear hb hst
        go_wp2
        go_round
        case rel => exact ⟨i, by omega, rfl, by rw [HST.out]⟩
        case measure => simp [intOf]
      · rw [if_neg hb] at hst
        have HST := Lib.hid hst
        have hb2 : (((byteAt s i).toNat : Int) == 47) = false := by
          rw [beq_eq_false_iff_ne]
          intro h
          exact hb (UInt8.toNat_inj.1 (by show _ = 47; omega))
        clear hb hst
        go_wp2
        go_round
        case rel => exact ⟨i, by omega, rfl, by rw [HST.out]⟩
        case measure => simp [intOf]
    · obtain rfl : j = 0 := by omega
      rw [HAT.out]
      clear HAT HEND HLEN
      go_wp2_with fail
      with_reducible refine Calls.kReadI (readIC (by omega) HE.out HZ.out) ?_
      intro W1 _ g1 a1 n1 c1 _
      go_wp2_with fail
      with_reducible refine Calls.cN oneC ?_
      intro W2 _ a2 l2 c2 i2
      obtain rfl : l2 = 1 := i2.out.len
      go_wp2_with fail
      with_reducible refine Calls.kReadK (readKC (by omega) HF.out HD.out) ?_
      intro W3 _ a3 l3 c3 i3
      have hl3 := i3.out.len
      obtain rfl | rfl : e = 0 ∨ e = 1 := by omega
      · obtain rfl | rfl : f = 0 ∨ f = 1 := by omega
        · by_cases hd : d = 0
          · subst hd
            obtain rfl : l3 = 0 := hl3
            have hq : q = 0 := HQ.out
            have hk : k = 3 := HK.out
            subst hq
            subst hk
            go_wp2_with fail
            refine ret_bt rfl Tryz.underlying45 rfl (by kernel_rfl) rfl rfl rfl ?_
            exact ⟨_, _, _, _, _, _, _, rfl, CQ.cast inferInstance rfl (by omega), (inferInstance : Kp w _).out⟩
          · have hq : q = mkRat z d := by rw [HQ.out, if_pos ⟨rfl, rfl, hd⟩]
            subst hq
            have hl0 : ((l3 : Int) == 0) = false := by rw [beq_eq_false_iff_ne, hl3]; have := nf_len_pos hd; omega
            have hk : k = 0 := by rw [HK.out, if_neg (by decide), if_neg hd]
            subst hk
            clear hl3
            go_wp2_with (go_at_call 75; (with_reducible refine Calls.cQ (numFracC (by omega) hd) ?_); intros)
            refine ret_bt rfl Tryz.underlying45 rfl (by kernel_rfl) rfl rfl rfl ?_
            exact ⟨_, _, _, _, _, _, _, rfl, CQ.cast inferInstance rfl (by omega), (inferInstance : Kp w _).out⟩
        · have hq : q = 0 := by rw [HQ.out, if_neg (by omega)]
          have hk : k = 1 := HK.out
          subst hq
          subst hk
          go_wp2_with fail
          refine ret_bt rfl Tryz.underlying45 rfl (by kernel_rfl) rfl rfl rfl ?_
          exact ⟨_, _, _, _, _, _, _, rfl, CQ.cast inferInstance rfl (by omega), (inferInstance : Kp w _).out⟩
      · have hq : q = 0 := by rw [HQ.out, if_neg (by omega)]
        have hk : k = 1 := HK.out
        subst hq
        subst hk
        go_wp2_with fail
        refine ret_bt rfl Tryz.underlying45 rfl (by kernel_rfl) rfl rfl rfl ?_
        exact ⟨_, _, _, _, _, _, _, rfl, CQ.cast inferInstance rfl (by omega), (inferInstance : Kp w _).out⟩
end Go.Proofs.YtdlnoeegboapkaaGreatDoor

/- The text of a rational number, taken apart again. -/
namespace Go.Proofs.YtdlnoeegboapkaaGreatDoor
open Go.RowKit

theorem slashAt_app (r : List UInt8) : ∀ p : List UInt8, (∀ b ∈ p, b ≠ 47) → slashAt (p ++ 47 :: r) = p.length
  | [], _ => by unfold slashAt; rw [List.nil_append, List.findIdx_cons]; rfl
  | b :: p, h => by
    have ih := slashAt_app r p fun c hc => h c (List.mem_cons_of_mem _ hc)
    have hb : (b == 47) = false := by rw [beq_eq_false_iff_ne]; exact h b (List.mem_cons_self ..)
    unfold slashAt at *
    rw [List.cons_append, List.findIdx_cons, hb, ih]
    rfl
theorem hasSlash_app (p r : List UInt8) : hasSlash (p ++ 47 :: r) = true := by unfold hasSlash; simp
theorem hasSlash_none {p : List UInt8} (h : ∀ b ∈ p, b ≠ 47) : hasSlash p = false := by
  unfold hasSlash
  rw [List.contains_eq_mem, decide_eq_false_iff_not]
  exact fun hm => h 47 hm rfl
theorem cutL_app {p r : List UInt8} (h : ∀ b ∈ p, b ≠ 47) : cutL (p ++ 47 :: r) = p := by
  unfold cutL
  rw [if_pos (hasSlash_app p r), slashAt_app r p h, List.take_left]
theorem cutR_app {p r : List UInt8} (h : ∀ b ∈ p, b ≠ 47) : cutR (p ++ 47 :: r) = r := by
  unfold cutR
  rw [if_pos (hasSlash_app p r), slashAt_app r p h]
  simp
theorem isD_ne {b : UInt8} (h : isD b = true) : b ≠ 47 := fun e => by subst e; exact absurd h (by decide)
theorem decI_ne (z : Int) : ∀ b ∈ (decI z).data.toList, b ≠ 47 := by
  rw [decI_data]
  intro b hb
  split at hb
  · rcases List.mem_cons.1 hb with rfl | hb
    · decide
    · exact isD_ne (decL_isD _ b hb)
  · exact isD_ne (decL_isD _ b hb)
/-- The text of a whole number. -/
theorem fmtQ_int {x : Rat} (hd : x.den = 1) (hb : (dl x.num.natAbs).length ≤ 4000) :
    hasSlash (fmtQ x).data.toList = false ∧ pKind (iDig (cutL (fmtQ x).data.toList)) = 0 ∧ iVal (cutL (fmtQ x).data.toList) = x.num := by
  have e : fmtQ x = decI x.num := if_pos hd
  have h1 := hasSlash_none (decI_ne x.num)
  rw [e]
  refine ⟨h1, ?_⟩
  have h2 : cutL (decI x.num).data.toList = (decI x.num).data.toList := by unfold cutL; rw [h1]; rfl
  rw [h2]
  exact dec_kindI hb
/-- The text of a fraction. -/
theorem fmtQ_frac {x : Rat} (hd : x.den ≠ 1) (hb : (dl x.num.natAbs).length ≤ 4000) (hb2 : (dl x.den).length ≤ 4000) :
    hasSlash (fmtQ x).data.toList = true ∧ (pKind (iDig (cutL (fmtQ x).data.toList)) = 0 ∧ iVal (cutL (fmtQ x).data.toList) = x.num) ∧ pKind (cutR (fmtQ x).data.toList) = 0 ∧ bval (cutR (fmtQ x).data.toList) = x.den := by
  have e : (fmtQ x).data.toList = (decI x.num).data.toList ++ 47 :: decL x.den := by
    have e1 : fmtQ x = decI x.num ++ (⟨#[47]⟩ ++ decStr x.den) := if_neg hd
    rw [e1, ByteArray.data_append, Array.toList_append, ByteArray.data_append, Array.toList_append, decStr_data]
    rfl
  rw [e, cutL_app (decI_ne _), cutR_app (decI_ne _)]
  have h2 := dec_kind hb2
  rw [decStr_data] at h2
  exact ⟨hasSlash_app _ _, dec_kindI hb, h2.1, h2.2⟩
theorem fmtQ_size (x : Rat) : (fmtQ x).size ≤ 4 + (dl x.num.natAbs).length + (dl x.den).length := by
  have h1 := decI_size2 x.num
  have h2 := decStr_size x.den
  unfold fmtQ
  split
  · omega
  · rw [ByteArray.size_append, ByteArray.size_append]
    have : (⟨#[47]⟩ : ByteArray).size = 1 := rfl
    omega
/-- Parse reads back what Format writes. -/
theorem parse_fmt {w w1 w2 w3 : World} {a0 a1 a2 : Addr} [h0 : Snt w 0 a0 w1] [h1 : Snt w 2 a1 w2] [h2 : Snt w 1 a2 w3] (hne : a1 ≠ a0) {x : Rat} (hs : (fmtQ x).size ≤ 1000000) (b1 : (dl x.num.natAbs).length ≤ 4000) (b2 : (dl x.den).length ≤ 4000) :
    Calls Tryz.prog 67 #[.string (fmtQ x)] w (RatRet w x 5000) := by
  by_cases hd : x.den = 1
  · obtain ⟨e1, e2⟩ := fmtQ_int hd b1
    have h := rparse_0n (w := w) (fmtQ x) hne hs e1 e2
    rwa [show mkRat x.num 1 = x by rw [← hd]; exact Rat.mkRat_self x] at h
  · obtain ⟨e1, e2, e3⟩ := fmtQ_frac hd b1 b2
    have h := rparse_00p (w := w) (fmtQ x) hne hs e1 e2 e3 x.den_nz
    rwa [Rat.mkRat_self] at h
theorem val_p {l : List Nat} (h : Dig l) {k : Nat} (hk : 10 * l.length ≤ k) : val l < 10 ^ k := by
  refine Nat.lt_of_lt_of_le (val_lt l h) (Nat.le_trans ?_ (Nat.pow_le_pow_right (by omega) hk))
  rw [Nat.pow_mul]
  exact Nat.pow_le_pow_left (by decide) _
theorem cw_dl {W : World} {g : Bool} {a aa : Option Addr} {l c ll cc : Nat} {x : Rat} {k : Nat} (h : CW W (.agg #[.bool g, .slice a l c, .slice aa ll cc]) x k) {t : Nat} (hk : 10 * k ≤ t) (ht : 1 ≤ t) : (dl x.num.natAbs).length ≤ t ∧ (dl x.den).length ≤ t := by
  obtain ⟨z, m, rfl, i1, i2⟩ := CW.parts h
  obtain ⟨n, ⟨L, h1, rfl, h2⟩, rfl⟩ := zi_of i1
  obtain ⟨M, h3, rfl, h4⟩ := i2.out
  have e1 : val L < 10 ^ t := val_p h1.dig (by omega)
  have e2 : val M < 10 ^ t := val_p h3.dig (by omega)
  by_cases hm : val M = 0
  · rw [hm, Rat.mkRat_zero]
    exact ⟨Nat.zero_le _, ht⟩
  · refine ⟨dl_len ?_, dl_len ?_⟩
    · rw [mk_abs _ hm, sgn_abs]
      exact Nat.lt_of_le_of_lt (Nat.div_le_self _ _) e1
    · rw [mk_den _ hm]
      exact Nat.lt_of_le_of_lt (Nat.div_le_self _ _) e2
end Go.Proofs.YtdlnoeegboapkaaGreatDoor

/- strings.CutPrefix, strings.CutSuffix at one letter; strings.Cut at a comma. printed by a small program (mkpt.py). -/
namespace Go.Proofs.YtdlnoeegboapkaaGreatDoor
open Go.RowKit
set_option maxRecDepth 100000
set_option maxHeartbeats 40000000
set_option synthInstance.maxSize 100000
set_option synthInstance.maxHeartbeats 1000000
set_option maxRecDepth 100000
set_option maxHeartbeats 4000000
set_option linter.unusedVariables false
set_option linter.unusedSimpArgs false

/-- Whether a text has a comma, and where; the text before it and behind it. -/
def hasCom (l : List UInt8) : Bool := l.contains 44
def comAt (l : List UInt8) : Nat := l.findIdx (fun b => b == 44)
def comL (l : List UInt8) : List UInt8 := if hasCom l = true then l.take (comAt l) else l
def comR (l : List UInt8) : List UInt8 := if hasCom l = true then l.drop (comAt l + 1) else []
theorem com_lt {l : List UInt8} (h : hasCom l = true) : comAt l < l.length := by
  unfold comAt
  rw [List.findIdx_lt_length]
  exact ⟨44, by simpa [hasCom] using h, by decide⟩
theorem index_com : ∀ l : List UInt8, Lib.indexByte l 44 = if hasCom l = true then (comAt l : Int) else -1
  | [] => rfl
  | b :: l => by
    have ih := index_com l
    unfold Lib.indexByte
    by_cases hb : (b == 44) = true
    · have e1 : hasCom (b :: l) = true := by unfold hasCom; simp [beq_iff_eq.1 hb]
      have e2 : comAt (b :: l) = 0 := by unfold comAt; rw [List.findIdx_cons, hb]; rfl
      rw [if_pos hb, if_pos e1, e2]; rfl
    · have hb' : (b == 44) = false := by simpa using hb
      have e1 : hasCom (b :: l) = hasCom l := by
        unfold hasCom
        rw [List.contains_cons]
        have : ((44 : UInt8) == b) = false := by rw [beq_eq_false_iff_ne] at hb' ⊢; exact fun e => hb' e.symm
        rw [this, Bool.false_or]
      have e2 : comAt (b :: l) = comAt l + 1 := by unfold comAt; rw [List.findIdx_cons, hb']; rfl
      rw [if_neg hb, e1, e2, ih]
      by_cases h : hasCom l = true
      · rw [if_pos h, if_pos h]
        have : (((comAt l : Nat) : Int) == -1) = false := by rw [beq_eq_false_iff_ne]; omega
        rw [this]; simp
      · rw [if_neg h, if_neg h]; rfl
/-- What strings.Cut returns. -/
def ComRet (w : World) (l : List UInt8) (e : Ending) (w' : World) : Prop :=
  ∃ p q, e = .returned (.tuple #[.string p, .string q, .bool (hasCom l)]) ∧ p.data.toList = comL l ∧ q.data.toList = comR l ∧ Below w.heap.size w w'
theorem comI (s : ByteArray) (w : World) (hsz : s.size ≤ 1000000000) : Calls Tryz.prog 130 #[.string s, .string ⟨#[44]⟩] w (ComRet w s.data.toList) := by
  have hI := @run_callFunc_extern Tryz.prog 283 _ Extern.BytealgIndexByte.indexByte Tryz.func283 (by kernel_rfl) (by kernel_rfl) (by kernel_rfl) (by kernel_rfl)
  have hix0 : ∀ w, (Instr.index 9 (.string ⟨#[44]⟩) (.int .i64 0)).run Tryz.prog w = .ok (.int .u8 44) w := fun _ => by kernel_rfl
  have hlen := str_len s
  by_cases hS : hasCom s.data.toList = true
  · have hlt := com_lt hS
    rw [← hlen] at hlt
    have hv : ∀ w, (Extern.BytealgIndexByte.indexByte #[.string s, .int .u8 44]).run Tryz.prog w = .ok (.int .i64 (comAt s.data.toList : Nat)) w := fun w => by
      rw [run_indexByte_string, Lib.firstIdx_eq]
      have := index_com s.data.toList
      rw [if_pos hS] at this
      rw [show (44 : Int).toNat.toUInt8 = 44 from rfl, this]
    have HF : Hid (∃ p q : ByteArray, p = s.extract 0 (comAt s.data.toList) ∧ q = s.extract (comAt s.data.toList + 1) s.size ∧ p.data.toList = comL s.data.toList ∧ q.data.toList = comR s.data.toList) := by
      refine ⟨_, _, rfl, rfl, ?_, ?_⟩
      · rw [Lib.extract_data, comL, if_pos hS]; simp
      · rw [Lib.extract_data, comR, if_pos hS, List.take_of_length_le (by rw [List.length_drop, ← hlen]; omega)]
    have HS := Lib.hid hS
    have hone : (([44] == s.toList) = true ∧ comAt s.data.toList = 0) ∨ ([44] == s.toList) = false := by
      rw [Lib.toList_data]
      by_cases h : s.data.toList = [44]
      · left; rw [h]; exact ⟨rfl, rfl⟩
      · right; rw [beq_eq_false_iff_ne]; exact fun e => h e.symm
    have hw1 : IntKind.i64.wrap 1 = 1 := by decide
    clear hS hlen
    generalize comAt s.data.toList = n at *
    rcases hone with ⟨hone, rfl⟩ | hone
    · have hlt2 : (1 : Int) ≤ (s.size : Int) := by omega
      try (have hlt3 : (n : Int) + 1 ≤ (s.size : Int) := by omega)
      try (have hlt4 : n ≤ s.size := by omega)
      try (have hlt5 : IntKind.i64.wrap ((n : Int) + 1) = (n : Int) + 1 := by simp [IntKind.wrap, IntKind.signed, IntKind.bits]; omega)
      try (have hlt6 : (0 : Int) ≤ (n : Int) + 1 := by omega)
      go_enter Tryz.func130, Tryz.ntmps130
      go_wp2
      refine region_cls (by kernel_rfl) [] (fun hHeld => ?_)
      refine wpAnyH_take (i := 0) (v := ?z92) (by simp; rfl) (by kernel_rfl) (by kernel_rfl) (by kernel_rfl) (by exact fun _ _ _ h => h) (Or.inl ⟨by rfl, ?yz92⟩) hHeld ?_
      case yz92 => (intro wx hSw; have hSx := Ex1.mk hSw; go_simp; (try with_reducible rfl))
      try simp only [Act.put, List.setIfInBounds_toArray, List.set_cons_zero, List.set_cons_succ]
      refine wpAnyH_take (i := 1) (v := ?z93) (by simp; rfl) (by kernel_rfl) (by kernel_rfl) (by kernel_rfl) (by exact fun _ _ _ h => h) (Or.inl ⟨by rfl, ?yz93⟩) hHeld ?_
      case yz93 => (intro wx hSw; have hSx := Ex1.mk hSw; go_simp; (try with_reducible rfl))
      try simp only [Act.put, List.setIfInBounds_toArray, List.set_cons_zero, List.set_cons_succ]
      refine wpAnyH_take (i := 2) (v := ?z94) (by simp; rfl) (by kernel_rfl) (by kernel_rfl) (by kernel_rfl) (by exact fun _ _ _ h => h) (Or.inl ⟨by rfl, ?yz94⟩) hHeld ?_
      case yz94 => (intro wx hSw; have hSx := Ex1.mk hSw; go_simp; (try with_reducible rfl))
      try simp only [Act.put, List.setIfInBounds_toArray, List.set_cons_zero, List.set_cons_succ]
      refine wpAnyH_take (i := 3) (v := ?z95) (by simp; rfl) (by kernel_rfl) (by kernel_rfl) (by kernel_rfl) (by exact fun _ _ _ h => h) (Or.inl ⟨by rfl, ?yz95⟩) hHeld ?_
      case yz95 => (intro wx hSw; have hSx := Ex1.mk hSw; go_simp; (try with_reducible rfl))
      try simp only [Act.put, List.setIfInBounds_toArray, List.set_cons_zero, List.set_cons_succ]
      refine wpAnyH_take (i := 4) (v := ?z96) (by simp; rfl) (by kernel_rfl) (by kernel_rfl) (by kernel_rfl) (by exact fun _ _ _ h => h) (Or.inl ⟨by rfl, ?yz96⟩) hHeld ?_
      case yz96 => (intro wx hSw; have hSx := Ex1.mk hSw; go_simp; (try with_reducible rfl))
      try simp only [Act.put, List.setIfInBounds_toArray, List.set_cons_zero, List.set_cons_succ]
      refine wpAnyH_take (i := 5) (v := ?z97) (by simp; rfl) (by kernel_rfl) (by kernel_rfl) (by kernel_rfl) (by exact fun _ _ _ h => h) (Or.inl ⟨by rfl, ?yz97⟩) hHeld ?_
      case yz97 => (intro wx hSw; have hSx := Ex1.mk hSw; go_simp; (try with_reducible rfl))
      try simp only [Act.put, List.setIfInBounds_toArray, List.set_cons_zero, List.set_cons_succ]
      refine wpAnyH_take (i := 6) (v := ?z98) (by simp; rfl) (by kernel_rfl) (by kernel_rfl) (by kernel_rfl) (by exact fun _ _ _ h => h) (Or.inl ⟨by rfl, ?yz98⟩) hHeld ?_
      case yz98 => (intro wx hSw; have hSx := Ex1.mk hSw; go_simp; (try with_reducible rfl))
      try simp only [Act.put, List.setIfInBounds_toArray, List.set_cons_zero, List.set_cons_succ]
      refine wpAnyH_take (i := 7) (v := ?z99) (by simp; rfl) (by kernel_rfl) (by kernel_rfl) (by kernel_rfl) (by exact fun _ _ _ h => h) (Or.inl ⟨by rfl, ?yz99⟩) hHeld ?_
      case yz99 => (intro wx hSw; have hSx := Ex1.mk hSw; go_simp; (try with_reducible rfl))
      try simp only [Act.put, List.setIfInBounds_toArray, List.set_cons_zero, List.set_cons_succ]
      refine wpAnyH_take (i := 8) (v := ?z100) (by simp; rfl) (by kernel_rfl) (by kernel_rfl) (by kernel_rfl) (by exact fun _ _ _ h => h) (Or.inl ⟨by rfl, ?yz100⟩) hHeld ?_
      case yz100 => (intro wx hSw; have hSx := Ex1.mk hSw; go_simp; (try with_reducible rfl))
      try simp only [Act.put, List.setIfInBounds_toArray, List.set_cons_zero, List.set_cons_succ]
      refine wpAnyH_take (i := 9) (v := ?z101) (by simp; rfl) (by kernel_rfl) (by kernel_rfl) (by kernel_rfl) (by exact fun _ _ _ h => h) (Or.inl ⟨by rfl, ?yz101⟩) hHeld ?_
      case yz101 => (intro wx hSw; have hSx := Ex1.mk hSw; go_simp; (try with_reducible rfl))
      try simp only [Act.put, List.setIfInBounds_toArray, List.set_cons_zero, List.set_cons_succ]
      refine wpAnyH_take (i := 10) (v := ?z102) (by simp; rfl) (by kernel_rfl) (by kernel_rfl) (by kernel_rfl) (by exact fun _ _ _ h => h) (Or.inl ⟨by rfl, ?yz102⟩) hHeld ?_
      case yz102 => (intro wx hSw; have hSx := Ex1.mk hSw; go_simp; (try with_reducible rfl))
      try simp only [Act.put, List.setIfInBounds_toArray, List.set_cons_zero, List.set_cons_succ]
      refine wpAnyH_take (i := 11) (v := ?z103) (by simp; rfl) (by kernel_rfl) (by kernel_rfl) (by kernel_rfl) (by exact fun _ _ _ h => h) (Or.inl ⟨by rfl, ?yz103⟩) hHeld ?_
      case yz103 => (intro wx hSw; have hSx := Ex1.mk hSw; go_simp; (try with_reducible rfl))
      try simp only [Act.put, List.setIfInBounds_toArray, List.set_cons_zero, List.set_cons_succ]
      refine wpAnyH_done (by kernel_rfl) ?_ _
      clear hHeld
      go_wp2
      go_ret3
      obtain ⟨p, q, rfl, rfl, h1, h2⟩ := HF.out
      have e00 : s.extract 0 0 = ByteArray.empty := by simp
      first
        | exact ⟨_, _, by rw [HS.out]; rfl, h1, h2, (inferInstance : Kp w _).out⟩
        | (rw [e00] at h1; exact ⟨_, _, by rw [HS.out]; rfl, h1, h2, (inferInstance : Kp w _).out⟩)
    · have hlt2 : (1 : Int) ≤ (s.size : Int) := by omega
      try (have hlt3 : (n : Int) + 1 ≤ (s.size : Int) := by omega)
      try (have hlt4 : n ≤ s.size := by omega)
      try (have hlt5 : IntKind.i64.wrap ((n : Int) + 1) = (n : Int) + 1 := by simp [IntKind.wrap, IntKind.signed, IntKind.bits]; omega)
      try (have hlt6 : (0 : Int) ≤ (n : Int) + 1 := by omega)
      go_enter Tryz.func130, Tryz.ntmps130
      go_wp2
      refine region_cls (by kernel_rfl) [] (fun hHeld => ?_)
      refine wpAnyH_take (i := 0) (v := ?z104) (by simp; rfl) (by kernel_rfl) (by kernel_rfl) (by kernel_rfl) (by exact fun _ _ _ h => h) (Or.inl ⟨by rfl, ?yz104⟩) hHeld ?_
      case yz104 => (intro wx hSw; have hSx := Ex1.mk hSw; go_simp; (try with_reducible rfl))
      try simp only [Act.put, List.setIfInBounds_toArray, List.set_cons_zero, List.set_cons_succ]
      refine wpAnyH_take (i := 1) (v := ?z105) (by simp; rfl) (by kernel_rfl) (by kernel_rfl) (by kernel_rfl) (by exact fun _ _ _ h => h) (Or.inl ⟨by rfl, ?yz105⟩) hHeld ?_
      case yz105 => (intro wx hSw; have hSx := Ex1.mk hSw; go_simp; (try with_reducible rfl))
      try simp only [Act.put, List.setIfInBounds_toArray, List.set_cons_zero, List.set_cons_succ]
      refine wpAnyH_take (i := 2) (v := ?z106) (by simp; rfl) (by kernel_rfl) (by kernel_rfl) (by kernel_rfl) (by exact fun _ _ _ h => h) (Or.inl ⟨by rfl, ?yz106⟩) hHeld ?_
      case yz106 => (intro wx hSw; have hSx := Ex1.mk hSw; go_simp; (try with_reducible rfl))
      try simp only [Act.put, List.setIfInBounds_toArray, List.set_cons_zero, List.set_cons_succ]
      refine wpAnyH_take (i := 3) (v := ?z107) (by simp; rfl) (by kernel_rfl) (by kernel_rfl) (by kernel_rfl) (by exact fun _ _ _ h => h) (Or.inl ⟨by rfl, ?yz107⟩) hHeld ?_
      case yz107 => (intro wx hSw; have hSx := Ex1.mk hSw; go_simp; (try with_reducible rfl))
      try simp only [Act.put, List.setIfInBounds_toArray, List.set_cons_zero, List.set_cons_succ]
      refine wpAnyH_take (i := 4) (v := ?z108) (by simp; rfl) (by kernel_rfl) (by kernel_rfl) (by kernel_rfl) (by exact fun _ _ _ h => h) (Or.inl ⟨by rfl, ?yz108⟩) hHeld ?_
      case yz108 => (intro wx hSw; have hSx := Ex1.mk hSw; go_simp; (try with_reducible rfl))
      try simp only [Act.put, List.setIfInBounds_toArray, List.set_cons_zero, List.set_cons_succ]
      refine wpAnyH_take (i := 5) (v := ?z109) (by simp; rfl) (by kernel_rfl) (by kernel_rfl) (by kernel_rfl) (by exact fun _ _ _ h => h) (Or.inl ⟨by rfl, ?yz109⟩) hHeld ?_
      case yz109 => (intro wx hSw; have hSx := Ex1.mk hSw; go_simp; (try with_reducible rfl))
      try simp only [Act.put, List.setIfInBounds_toArray, List.set_cons_zero, List.set_cons_succ]
      refine wpAnyH_take (i := 6) (v := ?z110) (by simp; rfl) (by kernel_rfl) (by kernel_rfl) (by kernel_rfl) (by exact fun _ _ _ h => h) (Or.inl ⟨by rfl, ?yz110⟩) hHeld ?_
      case yz110 => (intro wx hSw; have hSx := Ex1.mk hSw; go_simp; (try with_reducible rfl))
      try simp only [Act.put, List.setIfInBounds_toArray, List.set_cons_zero, List.set_cons_succ]
      refine wpAnyH_take (i := 7) (v := ?z111) (by simp; rfl) (by kernel_rfl) (by kernel_rfl) (by kernel_rfl) (by exact fun _ _ _ h => h) (Or.inl ⟨by rfl, ?yz111⟩) hHeld ?_
      case yz111 => (intro wx hSw; have hSx := Ex1.mk hSw; go_simp; (try with_reducible rfl))
      try simp only [Act.put, List.setIfInBounds_toArray, List.set_cons_zero, List.set_cons_succ]
      refine wpAnyH_take (i := 8) (v := ?z112) (by simp; rfl) (by kernel_rfl) (by kernel_rfl) (by kernel_rfl) (by exact fun _ _ _ h => h) (Or.inl ⟨by rfl, ?yz112⟩) hHeld ?_
      case yz112 => (intro wx hSw; have hSx := Ex1.mk hSw; go_simp; (try with_reducible rfl))
      try simp only [Act.put, List.setIfInBounds_toArray, List.set_cons_zero, List.set_cons_succ]
      refine wpAnyH_take (i := 9) (v := ?z113) (by simp; rfl) (by kernel_rfl) (by kernel_rfl) (by kernel_rfl) (by exact fun _ _ _ h => h) (Or.inl ⟨by rfl, ?yz113⟩) hHeld ?_
      case yz113 => (intro wx hSw; have hSx := Ex1.mk hSw; go_simp; (try with_reducible rfl))
      try simp only [Act.put, List.setIfInBounds_toArray, List.set_cons_zero, List.set_cons_succ]
      refine wpAnyH_take (i := 10) (v := ?z114) (by simp; rfl) (by kernel_rfl) (by kernel_rfl) (by kernel_rfl) (by exact fun _ _ _ h => h) (Or.inl ⟨by rfl, ?yz114⟩) hHeld ?_
      case yz114 => (intro wx hSw; have hSx := Ex1.mk hSw; go_simp; (try with_reducible rfl))
      try simp only [Act.put, List.setIfInBounds_toArray, List.set_cons_zero, List.set_cons_succ]
      refine wpAnyH_take (i := 11) (v := ?z115) (by simp; rfl) (by kernel_rfl) (by kernel_rfl) (by kernel_rfl) (by exact fun _ _ _ h => h) (Or.inl ⟨by rfl, ?yz115⟩) hHeld ?_
      case yz115 => (intro wx hSw; have hSx := Ex1.mk hSw; go_simp; (try with_reducible rfl))
      try simp only [Act.put, List.setIfInBounds_toArray, List.set_cons_zero, List.set_cons_succ]
      refine wpAnyH_done (by kernel_rfl) ?_ _
      clear hHeld
      go_wp2
      go_ret3
      obtain ⟨p, q, rfl, rfl, h1, h2⟩ := HF.out
      have e00 : s.extract 0 0 = ByteArray.empty := by simp
      first
        | exact ⟨_, _, by rw [HS.out]; rfl, h1, h2, (inferInstance : Kp w _).out⟩
        | (rw [e00] at h1; exact ⟨_, _, by rw [HS.out]; rfl, h1, h2, (inferInstance : Kp w _).out⟩)
  · have hv : ∀ w, (Extern.BytealgIndexByte.indexByte #[.string s, .int .u8 44]).run Tryz.prog w = .ok (.int .i64 (-1)) w := fun w => by
      rw [run_indexByte_string, Lib.firstIdx_eq]
      have := index_com s.data.toList
      rw [if_neg hS] at this
      rw [show (44 : Int).toNat.toUInt8 = 44 from rfl, this]
    have h1 : Hid (s.data.toList = comL s.data.toList) := by show _ = _; rw [comL, if_neg hS]
    have h2 : Hid ((⟨#[]⟩ : ByteArray).data.toList = comR s.data.toList) := by show _ = _; rw [comR, if_neg hS]
    have HS : Hid (hasCom s.data.toList = false) := by show _ = _; simpa using hS
    have hone : ([44] == s.toList) = false := by
      rw [Lib.toList_data, beq_eq_false_iff_ne]
      intro e
      rw [← e] at hS
      exact hS rfl
    clear hS hlen
    go_enter Tryz.func130, Tryz.ntmps130
    go_wp2
    go_ret3
    exact ⟨_, _, by rw [HS.out]; rfl, h1.out, h2.out, (inferInstance : Kp w _).out⟩
theorem comC (s : ByteArray) (w : World) (hsz : s.size ≤ 1000000000) : Calls Tryz.prog 66 #[.string s, .string ⟨#[44]⟩] w (ComRet w s.data.toList) := by
  go_enter Tryz.func66, Tryz.ntmps66
  go_wp2_with (go_at_call 130; refine (comI s w hsz).mono ?_; rintro e w' ⟨p, q, rfl, h1, h2, hb⟩)
  go_ret3
  exact ⟨_, _, rfl, h1, h2, hb⟩
theorem comL_len (l : List UInt8) : (comL l).length ≤ l.length := by
  unfold comL
  split
  · exact List.length_take_le' ..
  · exact Nat.le_refl _
theorem comR_len (l : List UInt8) : (comR l).length ≤ l.length := by
  unfold comR
  split
  · rw [List.length_drop]; omega
  · simp
theorem Calls.kCom {P : Program} {f : FuncId} {args : Array Value} {w : World} {l : List UInt8} {K : Ending → World → Prop} (h : Calls P f args w (ComRet w l)) {p q : List UInt8} {b : Bool} (hh : hasCom l = b ∧ comL l = p ∧ comR l = q)
    (hK : ∀ w' [Kp1 w w'] x y, Hid (x.data.toList = p) → Hid (y.data.toList = q) → K (.returned (.tuple #[.string x, .string y, .bool b])) w') : Calls P f args w K := by
  refine h.mono ?_
  rintro e w' ⟨x, y, rfl, hx, hy, hb⟩
  rw [hh.1]
  exact @hK w' ⟨hb⟩ x y (hx.trans hh.2.1) (hy.trans hh.2.2)
def preB (c : UInt8) (l : List UInt8) : Bool := l.head? == some c
def preT (c : UInt8) (l : List UInt8) : List UInt8 := if preB c l = true then l.drop 1 else l
def sufB (c : UInt8) (l : List UInt8) : Bool := l.getLast? == some c
def sufT (c : UInt8) (l : List UInt8) : List UInt8 := if sufB c l = true then l.dropLast else l
theorem size_one {p : ByteArray} {c : UInt8} (hp : p.data.toList = [c]) : p.size = 1 := by rw [str_len, hp]; rfl
theorem pre_ext {s p : ByteArray} {c : UInt8} (hp : p.data.toList = [c]) : ((s.extract 0 1).toList == p.toList) = preB c s.data.toList := by
  rw [Lib.toList_data, Lib.toList_data, hp, Lib.extract_data]
  unfold preB
  cases s.data.toList with
  | nil => rfl
  | cons b l => simp
theorem suf_ext {s p : ByteArray} {c : UInt8} (hp : p.data.toList = [c]) (h : 1 ≤ s.size) : ((s.extract (s.size - 1) s.size).toList == p.toList) = sufB c s.data.toList := by
  rw [Lib.toList_data, Lib.toList_data, hp, Lib.extract_data]
  have hl := str_len s
  rw [hl] at h ⊢
  unfold sufB
  clear hl
  generalize s.data.toList = L at *
  rw [List.getLast?_eq_getElem?]
  rw [List.drop_eq_getElem_cons (by omega), List.drop_of_length_le (by omega), List.getElem?_eq_getElem (by omega), show L.length - (L.length - 1) = 1 by omega]
  simp
def StrRet (w : World) (l : List UInt8) (b : Bool) (e : Ending) (w' : World) : Prop := ∃ p : ByteArray, e = .returned (.tuple #[.string p, .bool b]) ∧ p.data.toList = l ∧ w = w'
theorem Calls.kStr {P : Program} {f : FuncId} {args : Array Value} {w : World} {l l' : List UInt8} {b b' : Bool} {K : Ending → World → Prop} (h : Calls P f args w (StrRet w l b)) (hb : b = b' ∧ l = l')
    (hK : ∀ x : ByteArray, Hid (x.data.toList = l') → K (.returned (.tuple #[.string x, .bool b'])) w) : Calls P f args w K := by
  refine h.mono ?_
  rintro e w' ⟨p, rfl, hp, rfl⟩
  rw [hb.1]
  exact hK p (hp.trans hb.2)
theorem hpC {w : World} {s p : ByteArray} {c : UInt8} {b : Bool} (hp : Hid (p.data.toList = [c])) (hb : Hid (preB c s.data.toList = b)) :
    Calls Tryz.prog 186 #[.string s, .string p] w (fun e w' => e = .returned (.bool b) ∧ w = w') := by
  have h2 : ((p.size : Nat) : Int) = 1 := by rw [size_one hp.out]; rfl
  by_cases h : 1 ≤ s.size
  · have hE : Hid (((s.extract 0 1).toList == p.toList) = b) := (pre_ext hp.out).trans hb.out
    have h1 : (1 : Int) ≤ s.size := by omega
    clear h hb hp
    go_enter Tryz.func186, Tryz.ntmps186
    go_wp2
    go_ret
    exact ⟨by rw [← hE.out]; rfl, rfl⟩
  · have h1 : ((s.size : Nat) : Int) = 0 := by omega
    have hE : Hid (b = false) := by
      have hb := hb.out
      have : s.data.toList = [] := List.eq_nil_of_length_eq_zero (by rw [← str_len]; omega)
      rw [this] at hb; rw [← hb]; show _ = _; rfl
    clear h hb hp
    go_enter Tryz.func186, Tryz.ntmps186
    go_wp2
    go_ret
    exact ⟨by rw [hE.out]; rfl, rfl⟩
theorem hsC {w : World} {s p : ByteArray} {c : UInt8} {b : Bool} (hsz : s.size ≤ 1000000000) (hp : Hid (p.data.toList = [c])) (hb : Hid (sufB c s.data.toList = b)) :
    Calls Tryz.prog 187 #[.string s, .string p] w (fun e w' => e = .returned (.bool b) ∧ w = w') := by
  have h2 : ((p.size : Nat) : Int) = 1 := by rw [size_one hp.out]; rfl
  by_cases h : 1 ≤ s.size
  · obtain ⟨n, hn⟩ : ∃ n, s.size = n + 1 := ⟨s.size - 1, by omega⟩
    have hE : Hid (((s.extract n (n + 1)).toList == p.toList) = b) := by
      have := (suf_ext hp.out h).trans hb.out
      rw [hn, Nat.add_sub_cancel] at this; exact this
    have h1 : ((s.size : Nat) : Int) = (n : Int) + 1 := by omega
    have h3 : (1 : Int) ≤ (n : Int) + 1 := by omega
    have h4 : IntKind.i64.wrap (n : Int) = (n : Int) := by simp [IntKind.wrap, IntKind.signed, IntKind.bits]; omega
    have h5 : (n : Int) ≤ (n : Int) + 1 := by omega
    clear h hb hp hsz
    go_enter Tryz.func187, Tryz.ntmps187
    go_wp2
    go_ret
    exact ⟨by rw [← hE.out]; rfl, rfl⟩
  · have h1 : ((s.size : Nat) : Int) = 0 := by omega
    have hE : Hid (b = false) := by
      have hb := hb.out
      have : s.data.toList = [] := List.eq_nil_of_length_eq_zero (by rw [← str_len]; omega)
      rw [this] at hb; rw [← hb]; show _ = _; rfl
    clear h hb hp
    go_enter Tryz.func187, Tryz.ntmps187
    go_wp2
    go_ret
    exact ⟨by rw [hE.out]; rfl, rfl⟩
theorem cpI {w : World} {s p : ByteArray} {c : UInt8} {b : Bool} (hp : Hid (p.data.toList = [c])) (hb : Hid (preB c s.data.toList = b)) :
    Calls Tryz.prog 128 #[.string s, .string p] w (StrRet w (preT c s.data.toList) b) := by
  have h2 : ((p.size : Nat) : Int) = 1 := by rw [size_one hp.out]; rfl
  cases b with
  | false =>
    have hE : Hid (s.data.toList = preT c s.data.toList) := by show _ = _; unfold preT; rw [hb.out]; rfl
    go_enter Tryz.func128, Tryz.ntmps128
    go_wp2_with (go_at_call 186; (with_reducible refine Calls.cS (hpC hp hb) ?_))
    go_ret2
    exact ⟨_, rfl, hE.out, rfl⟩
  | true =>
    have h1 : (1 : Int) ≤ s.size := by
      have := hb.out
      have hl := str_len s
      unfold preB at this
      cases hs : s.data.toList with
      | nil => rw [hs] at this; simp at this
      | cons x l => rw [hs] at hl; simp at hl; omega
    have hE : Hid ((s.extract 1 s.size).data.toList = preT c s.data.toList) := by
      show _ = _; unfold preT; rw [hb.out, Lib.extract_data, if_pos rfl, List.take_of_length_le (by rw [List.length_drop, ← str_len]; omega)]
    go_enter Tryz.func128, Tryz.ntmps128
    go_wp2_with (go_at_call 186; (with_reducible refine Calls.cS (hpC hp hb) ?_))
    go_ret2
    exact ⟨_, rfl, hE.out, rfl⟩
theorem cpC {w : World} {s p : ByteArray} {c : UInt8} {b : Bool} (hp : Hid (p.data.toList = [c])) (hb : Hid (preB c s.data.toList = b)) :
    Calls Tryz.prog 64 #[.string s, .string p] w (StrRet w (preT c s.data.toList) b) := by
  go_enter Tryz.func64, Tryz.ntmps64
  go_wp2_with (go_at_call 128; (with_reducible refine Calls.kStr (cpI hp hb) ⟨rfl, rfl⟩ ?_); intro x hx)
  go_ret2
  exact ⟨_, rfl, hx.out, rfl⟩
theorem csI {w : World} {s p : ByteArray} {c : UInt8} {b : Bool} (hsz : s.size ≤ 1000000000) (hp : Hid (p.data.toList = [c])) (hb : Hid (sufB c s.data.toList = b)) :
    Calls Tryz.prog 129 #[.string s, .string p] w (StrRet w (sufT c s.data.toList) b) := by
  have h2 : ((p.size : Nat) : Int) = 1 := by rw [size_one hp.out]; rfl
  cases b with
  | false =>
    have hE : Hid (s.data.toList = sufT c s.data.toList) := by show _ = _; unfold sufT; rw [hb.out]; rfl
    go_enter Tryz.func129, Tryz.ntmps129
    go_wp2_with (go_at_call 187; (with_reducible refine Calls.cS (hsC hsz hp hb) ?_))
    go_ret2
    exact ⟨_, rfl, hE.out, rfl⟩
  | true =>
    have h0 : 1 ≤ s.size := by
      have := hb.out
      have hl := str_len s
      unfold sufB at this
      cases hs : s.data.toList with
      | nil => rw [hs] at this; simp at this
      | cons x l => rw [hs] at hl; simp at hl; omega
    obtain ⟨n, hn⟩ : ∃ n, s.size = n + 1 := ⟨s.size - 1, by omega⟩
    have hE : Hid ((s.extract 0 n).data.toList = sufT c s.data.toList) := by
      show _ = _; unfold sufT; rw [hb.out, Lib.extract_data, if_pos rfl, List.dropLast_eq_take, ← str_len, hn]; simp
    have h1 : ((s.size : Nat) : Int) = (n : Int) + 1 := by omega
    have h3 : (1 : Int) ≤ (n : Int) + 1 := by omega
    have h4 : IntKind.i64.wrap (n : Int) = (n : Int) := by simp [IntKind.wrap, IntKind.signed, IntKind.bits]; omega
    have h5 : (n : Int) ≤ (n : Int) + 1 := by omega
    clear h0 hn
    go_enter Tryz.func129, Tryz.ntmps129
    go_wp2_with (go_at_call 187; (with_reducible refine Calls.cS (hsC hsz hp hb) ?_))
    go_ret2
    exact ⟨_, rfl, hE.out, rfl⟩
theorem csC {w : World} {s p : ByteArray} {c : UInt8} {b : Bool} (hsz : s.size ≤ 1000000000) (hp : Hid (p.data.toList = [c])) (hb : Hid (sufB c s.data.toList = b)) :
    Calls Tryz.prog 65 #[.string s, .string p] w (StrRet w (sufT c s.data.toList) b) := by
  go_enter Tryz.func65, Tryz.ntmps65
  go_wp2_with (go_at_call 129; (with_reducible refine Calls.kStr (csI hsz hp hb) ⟨rfl, rfl⟩ ?_); intro x hx)
  go_ret2
  exact ⟨_, rfl, hx.out, rfl⟩
end Go.Proofs.YtdlnoeegboapkaaGreatDoor
