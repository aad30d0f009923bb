/-
  The texts of integers: num.Format of an integer, ref01.ReadI, the law IntegerTexts.
  Printed by a small program (mkitexts.py).
-/
import Derived.Test.YtnkfbkdcplbgoaaDoorLawNTexts
import Derived.Test.YtnkfbkdcplbgoaaDoorInt6
namespace Go.Proofs.YtnkfbkdcplbgoaaDoor
open Go.RowKit

set_option maxRecDepth 100000 in
set_option maxHeartbeats 4000000 in
set_option synthInstance.maxSize 100000 in
set_option synthInstance.maxHeartbeats 1000000 in
theorem numFormatZ {w : World} {g1 : Bool} {a1 : Option Addr} {l1 c1 : Nat} {x : Int} {k1 : Nat} [h1 : CZ w (.agg #[.bool g1, .slice a1 l1 c1]) x k1] (b : k1 ≤ 100000 ∧ (dl x.natAbs).length ≤ 1000000) :
    Calls Tryd.prog 29 #[.agg #[.bool g1, .slice a1 l1 c1, .slice none 0 0]] w fun e w' => e = .returned (.string (decI x)) ∧ Below w.heap.size w w' := by
  have i2 : CN w (.slice a1 l1 c1) x.natAbs k1 := ⟨(zz_of h1).2⟩
  have hg := (zz_of h1).1
  have hsz0 := decStr_size x.natAbs
  have hsz : (9223372036854775807 < 1 + (decStr x.natAbs).size) ↔ False := ⟨fun h => by omega, False.elim⟩
  clear hsz0 h1
  by_cases hx : x < 0
  · have HD : Hid (decI x = ⟨#[45]⟩ ++ decStr x.natAbs) := if_pos hx
    obtain rfl : g1 = true := by rw [hg]; simp [hx]
    clear hx hg
    go_enter Tryd.func29, Tryd.ntmps29
    go_wp2_with (go_at_call 18; (with_reducible refine Calls.cE (numTextC (by omega)) ?_); intros)
    go_ret
    exact E.fin (by rw [HD.out]; rfl)
  · have HD : Hid (decI x = decStr x.natAbs) := if_neg hx
    obtain rfl : g1 = false := by rw [hg]; simp [hx]
    clear hx hg
    go_enter Tryd.func29, Tryd.ntmps29
    go_wp2_with (go_at_call 18; (with_reducible refine Calls.cE (numTextC (by omega)) ?_); intros)
    go_ret
    exact E.fin (by rw [HD.out]; rfl)
/-- What ref01.ReadI returns, its kind known. -/
def ReadIRet (w : World) (z : Int) (k : Nat) (e : Ending) (w' : World) : Prop := ∃ g a n c, e = .returned (.tuple #[.agg #[.bool g, .slice a n c], .int .i64 ((k : Nat) : Int)]) ∧ CZ w' (.agg #[.bool g, .slice a n c]) z 4097 ∧ Below w.heap.size w w'
theorem Calls.kReadI {P : Program} {f : FuncId} {args : Array Value} {w : World} {z : Int} {k : Nat} {K : Ending → World → Prop} (h : Calls P f args w (ReadIRet w z k))
    (hK : ∀ w' [Kp1 w w'] g a n c [CZ w' (.agg #[.bool g, .slice a n c]) z 4097], K (.returned (.tuple #[.agg #[.bool g, .slice a n c], .int .i64 ((k : Nat) : Int)])) w') : Calls P f args w K := by
  refine h.mono ?_
  rintro e w' ⟨g, a, n, c, rfl, hx, hb⟩
  exact @hK w' ⟨hb⟩ g a n c hx
set_option maxRecDepth 100000 in
set_option maxHeartbeats 4000000 in
set_option synthInstance.maxSize 100000 in
set_option synthInstance.maxHeartbeats 1000000 in
theorem readIC {w : World} {s : ByteArray} (hsz : s.size ≤ 1000000000) {k : Nat} {z : Int} (hk : pKind (iDig s.data.toList) = k) (hz : sgn (iNeg s.data.toList) (if k = 0 then bval (iDig s.data.toList) else 0) = z) :
    Calls Tryd.prog 22 #[.string s] w (ReadIRet w z k) := by
  have hlen := str_len s
  by_cases hn : iNeg s.data.toList = true
  · rw [hn] at hz
    obtain ⟨t, ht⟩ : ∃ t, s.data.toList = 45 :: t := by
      cases hx : s.data.toList with
      | nil => rw [hx] at hn; cases hn
      | cons b t =>
        rw [hx] at hn
        exact ⟨t, by rw [of_decide_eq_true hn]⟩
    have hs1 : 1 ≤ s.size := by rw [hlen, ht]; simp
    have hs0 : 0 < s.size := hs1
    have e45 : (((s[0]'hs0).toNat : Int) == 45) = true := by
      rw [byteAt_eq]; unfold byteAt; rw [ht]; rfl
    have hee : s.toList.isEmpty = false := by rw [Lib.toList_data, ht]; rfl
    have hdr : (s.extract 1 s.size).data.toList = iDig s.data.toList := by
      rw [Lib.extract_data, iDig, if_pos hn, List.take_of_length_le (by rw [List.length_drop, ← hlen]; omega)]
    have hds : (s.extract 1 s.size).size ≤ 1000000000 := by rw [str_len, hdr, iDig, if_pos hn, List.length_drop, ← hlen]; omega
    rw [← hdr] at hk hz
    have HK := Lib.hid hk
    have HZ := Lib.hid hz
    clear hn ht hlen hdr hk hz
    go_enter Tryd.func22, Tryd.ntmps22
    go_wp2_with (first
      | (go_at_call 16; (with_reducible refine Calls.kReadK (readKC hds HK.out rfl) ?_); intros)
      | (go_at_call 57; (with_reducible refine Calls.cSg makeC ?_); intros))
    refine ret_bt rfl Tryd.underlying49 rfl (by kernel_rfl) rfl rfl rfl ?_
    exact ⟨_, _, _, _, rfl, CZ.cast inferInstance HZ.out (Nat.le_refl _), (inferInstance : Kp w _).out⟩
  · have hn' : iNeg s.data.toList = false := by simpa using hn
    rw [hn'] at hz
    have hdr : iDig s.data.toList = s.data.toList := by unfold iDig; rw [if_neg hn]
    rw [hdr] at hk hz
    have HK := Lib.hid hk
    have HZ := Lib.hid hz
    clear hdr hk hz
    by_cases he : s.data.toList = []
    · have hee : s.toList.isEmpty = true := by rw [Lib.toList_data, he]; rfl
      clear hn hn' hlen he
      go_enter Tryd.func22, Tryd.ntmps22
      go_wp2_with (first
        | (go_at_call 16; (with_reducible refine Calls.kReadK (readKC hsz HK.out rfl) ?_); intros)
        | (go_at_call 57; (with_reducible refine Calls.cSg makeC ?_); intros))
      refine ret_bt rfl Tryd.underlying49 rfl (by kernel_rfl) rfl rfl rfl ?_
      exact ⟨_, _, _, _, rfl, CZ.cast inferInstance HZ.out (Nat.le_refl _), (inferInstance : Kp w _).out⟩
    · have hee : s.toList.isEmpty = false := by
        rw [Lib.toList_data]
        cases hx : s.data.toList with
        | nil => exact absurd hx he
        | cons => rfl
      have hs1 : 1 ≤ s.size := by
        rw [hlen]
        cases hx : s.data.toList with
        | nil => exact absurd hx he
        | cons => simp
      have hs0 : 0 < s.size := hs1
      have h45 : (byteAt s 0).toNat ≠ 45 := by
        unfold byteAt
        cases hx : s.data.toList with
        | nil => exact absurd hx he
        | cons b t =>
          rw [hx] at hn'
          have h2 : b ≠ 45 := of_decide_eq_false hn'
          intro h3
          exact h2 (UInt8.toNat_inj.1 h3)
      have e45 : (((s[0]'hs0).toNat : Int) == 45) = false := by rw [beq_eq_false_iff_ne, byteAt_eq]; omega
      clear hn hn' hlen he h45
      go_enter Tryd.func22, Tryd.ntmps22
      go_wp2_with (first
        | (go_at_call 16; (with_reducible refine Calls.kReadK (readKC hsz HK.out rfl) ?_); intros)
        | (go_at_call 57; (with_reducible refine Calls.cSg makeC ?_); intros))
      refine ret_bt rfl Tryd.underlying49 rfl (by kernel_rfl) rfl rfl rfl ?_
      exact ⟨_, _, _, _, rfl, CZ.cast inferInstance HZ.out (Nat.le_refl _), (inferInstance : Kp w _).out⟩

theorem IsRow.keep {k : IntKind} {w w' : World} {a : Option Addr} {len cap : Nat} {zs : List Int} (h : IsRow k w a len cap zs) (hb : Below w.heap.size w w') : IsRow k w' a len cap zs := by
  rcases h with h | ⟨x, h1, h2, h3, h4, h5, h6⟩
  · exact .inl h
  · exact .inr ⟨x, h1, h2, h3, h4, fun i hi => (hb.cell (lt_of_cell (h5 i hi))).trans (h5 i hi), h6⟩
theorem ci_dl {W : World} {g : Bool} {a : Option Addr} {l c : Nat} {x : Int} {k : Nat} (h : CI W (.agg #[.bool g, .slice a l c]) x k) (hk : k ≤ 20) : (dl x.natAbs).length ≤ 200 := by
  obtain ⟨m, ⟨L, h1, rfl, h2⟩, rfl⟩ := zi_of h
  rw [sgn_abs]
  exact dl_val h1.dig (by omega)
theorem decI_size2 (x : Int) : (decI x).size ≤ 2 + (dl x.natAbs).length := by
  have h := decStr_size x.natAbs
  unfold decI
  split
  · rw [ByteArray.size_append]
    have : (⟨#[45]⟩ : ByteArray).size = 1 := rfl
    omega
  · omega
theorem decI_data (x : Int) : (decI x).data.toList = if x < 0 then 45 :: decL x.natAbs else decL x.natAbs := by
  unfold decI
  split
  · rw [ByteArray.data_append, Array.toList_append, decStr_data]; rfl
  · exact decStr_data _
theorem dec_kindI {x : Int} (h : (dl x.natAbs).length ≤ 4000) : pKind (iDig (decI x).data.toList) = 0 ∧ iVal (decI x).data.toList = x := by
  have hd := dec_kind h
  rw [decStr_data] at hd
  rw [decI_data]
  by_cases hx : x < 0
  · rw [if_pos hx]
    refine ⟨hd.1, ?_⟩
    show sgn true (bval (decL x.natAbs)) = x
    rw [hd.2]
    show -((x.natAbs : Nat) : Int) = x
    omega
  · rw [if_neg hx]
    have hneg : iNeg (decL x.natAbs) = false := by
      have h1 := decL_isD x.natAbs
      cases hL : decL x.natAbs with
      | nil => rfl
      | cons b t =>
        rw [hL] at h1
        have h2 := (isD_bd (h1 b (List.mem_cons_self ..))).2.1
        show decide (b = 45) = false
        refine decide_eq_false fun h3 => ?_
        subst h3
        exact absurd h2 (by decide)
    have hdg : iDig (decL x.natAbs) = decL x.natAbs := by unfold iDig; rw [hneg]; rfl
    rw [hdg]
    refine ⟨hd.1, ?_⟩
    unfold iVal
    rw [hneg, hdg, hd.2]
    show ((x.natAbs : Nat) : Int) = x
    omega
theorem iparse1 {w w1 w2 : World} {s : ByteArray} {a0 a1 : Addr} (h0 : Snt w 0 a0 w1) (h1 : Snt w 1 a1 w2) (hsz : s.size ≤ 1000000000) (hk : pKind (iDig s.data.toList) = 1) :
    Calls Tryd.prog 21 #[.string s] w (ErrRet w (.agg #[.bool false, .slice none 0 0]) a0) := (iparse_any s hsz).mono fun e w' h => by
  rcases h with h | h | h
  · exact h.2
  · rw [hk] at h; exact absurd h.1 (by decide)
  · rw [hk] at h; exact absurd h.1 (by decide)
theorem iparse0 {w w1 w2 : World} {s : ByteArray} {a0 a1 : Addr} (h0 : Snt w 0 a0 w1) (h1 : Snt w 1 a1 w2) (hsz : s.size ≤ 1000000000) {z : Int} (hk : pKind (iDig s.data.toList) = 0 ∧ iVal s.data.toList = z) :
    Calls Tryd.prog 21 #[.string s] w (IntRet w z 4097) := (iparse_any s hsz).mono fun e w' h => by
  obtain ⟨hk, rfl⟩ := hk
  rcases h with h | h | h
  · rw [hk] at h; exact absurd h.1 (by decide)
  · rw [hk] at h; exact absurd h.1 (by decide)
  · exact h.2
theorem iDig_len (l : List UInt8) : (iDig l).length ≤ l.length := by
  unfold iDig
  split
  · rw [List.length_drop]; omega
  · exact Nat.le_refl _
set_option maxRecDepth 100000 in
set_option maxHeartbeats 4000000 in
set_option synthInstance.maxSize 100000 in
set_option synthInstance.maxHeartbeats 1000000 in
theorem integerTexts_walk (s : ByteArray) (a0 : Option Addr) (len0 cap0 : Nat) (z0 : List Int) (w : World) (_ : s.size ≤ maxLen) (w0 : IsRow .i64 w a0 len0 cap0 z0) (hL : laidMetH Tryd.prog laid2 w) :
    Calls Tryd.prog 5 #[.string s, .slice a0 len0 cap0] w fun e w' => e = .returned (.bool true) ∧ Below w.heap.size w w' := by
  obtain ⟨s0, s1, i0, i1, hne⟩ := sents2 hL
  clear hL
  by_cases h200 : s.size ≤ 200
  · rcases pKind_cases (iDig s.data.toList) with hk | hk | hk
    · have HK := Lib.hid hk
      clear hk
      go_enter Tryd.func5, Tryd.ntmps5
      go_wp2_with fail
      with_reducible refine Calls.kErr (iparse1 inferInstance inferInstance (by omega) HK.out) ?_
      intro W3 _ b3 t3 _ _
      go_wp2_with fail
      with_reducible refine Calls.kReadI (readIC (by omega) HK.out (z := 0) (by rw [if_neg (by decide)]; cases iNeg s.data.toList <;> simp [sgn])) ?_
      intro W4 _ g4 a4 n4 c4 _
      go_wp2_with fail
      refine isSameC.mono ?_
      rintro e W5 ⟨rfl, rfl⟩
      go_wp2_with fail
      with_reducible refine Calls.cE (sameIC rfl) ?_
      intro W5 _
      go_wp2_with fail
      with_reducible refine Calls.cNew (newW (w0.keep (inferInstance : Kp w _).out)) ?_
      intro W6 _ _
      go_wp2_with fail
      with_reducible refine Calls.cTI madeC ?_
      intro W7 _ _ g7 a7 l7 c7 x i7
      have HD := ci_dl i7 (by omega)
      have HPK := Lib.hid (dec_kindI (x := x) (by omega))
      have HSZ : Hid ((decI x).size ≤ 1000000000) := by have := decI_size2 x; show _ ≤ _; omega
      go_wp2_with fail
      with_reducible refine Calls.cE (intFormatC (by omega)) ?_
      intro W8 _
      go_wp2_with fail
      with_reducible refine Calls.kInt (iparse0 inferInstance inferInstance HSZ.out (z := x) HPK.out) ?_
      intro W9 _ g9 a9 l9 c9 _
      go_wp2_with fail
      refine region_cls (by kernel_rfl) [] (fun hHeld => ?_)
      refine wpAnyH_ready (rs := [0]) (by kernel_rfl) (by simp) ?_
      refine AllReadyH.cons (by simp; rfl) (fun K hK => ?_) AllReadyH.nil
      go_simp
      (go_at_call 20; (with_reducible refine Calls.cE (known02C) ?_); intros)
      refine hK.out _ _ inferInstance ?_
      clear hHeld hK K
      intro hHeld
      try simp only [Act.put, List.setIfInBounds_toArray, List.set_cons_zero, List.set_cons_succ]
      refine wpAnyH_take (i := 1) (v := ?z5) (by simp; rfl) (by kernel_rfl) (by kernel_rfl) (by kernel_rfl) (by exact fun _ _ _ h => h) (Or.inl ⟨by rfl, ?yz5⟩) hHeld ?_
      case yz5 => (intro wx hSw; have hSx := Ex1.mk hSw; go_simp; (try with_reducible rfl))
      try simp only [Act.put, List.setIfInBounds_toArray, List.set_cons_zero, List.set_cons_succ]
      refine wpAnyH_take (i := 2) (v := ?z6) (by simp; rfl) (by kernel_rfl) (by kernel_rfl) (by kernel_rfl) (by exact fun _ _ _ h => h) (Or.inl ⟨by rfl, ?yz6⟩) hHeld ?_
      case yz6 => (intro wx hSw; have hSx := Ex1.mk hSw; go_simp; (try with_reducible rfl))
      try simp only [Act.put, List.setIfInBounds_toArray, List.set_cons_zero, List.set_cons_succ]
      refine wpAnyH_take (i := 3) (v := ?z7) (by simp; rfl) (by kernel_rfl) (by kernel_rfl) (by kernel_rfl) (by exact fun _ _ _ h => h) (Or.inl ⟨by rfl, ?yz7⟩) hHeld ?_
      case yz7 => (intro wx hSw; have hSx := Ex1.mk hSw; go_simp; (try with_reducible rfl))
      try simp only [Act.put, List.setIfInBounds_toArray, List.set_cons_zero, List.set_cons_succ]
      refine wpAnyH_take (i := 4) (v := ?z8) (by simp; rfl) (by kernel_rfl) (by kernel_rfl) (by kernel_rfl) (by exact fun _ _ _ h => h) (Or.inl ⟨by rfl, ?yz8⟩) hHeld ?_
      case yz8 => (intro wx hSw; have hSx := Ex1.mk hSw; go_simp; (try with_reducible rfl))
      try simp only [Act.put, List.setIfInBounds_toArray, List.set_cons_zero, List.set_cons_succ]
      refine wpAnyH_take (i := 5) (v := ?z9) (by simp; rfl) (by kernel_rfl) (by kernel_rfl) (by kernel_rfl) (by exact fun _ _ _ h => h) (Or.inl ⟨by rfl, ?yz9⟩) hHeld ?_
      case yz9 => (intro wx hSw; have hSx := Ex1.mk hSw; go_simp; (try with_reducible rfl))
      try simp only [Act.put, List.setIfInBounds_toArray, List.set_cons_zero, List.set_cons_succ]
      refine wpAnyH_take (i := 6) (v := ?z10) (by simp; rfl) (by kernel_rfl) (by kernel_rfl) (by kernel_rfl) (by exact fun _ _ _ h => h) (Or.inl ⟨by rfl, ?yz10⟩) hHeld ?_
      case yz10 => (intro wx hSw; have hSx := Ex1.mk hSw; go_simp; (try with_reducible rfl))
      try simp only [Act.put, List.setIfInBounds_toArray, List.set_cons_zero, List.set_cons_succ]
      refine wpAnyH_take (i := 7) (v := ?z11) (by simp; rfl) (by kernel_rfl) (by kernel_rfl) (by kernel_rfl) (by exact fun _ _ _ h => h) (Or.inl ⟨by rfl, ?yz11⟩) hHeld ?_
      case yz11 => (intro wx hSw; have hSx := Ex1.mk hSw; go_simp; (try with_reducible rfl))
      try simp only [Act.put, List.setIfInBounds_toArray, List.set_cons_zero, List.set_cons_succ]
      refine wpAnyH_ready (rs := [8]) (by kernel_rfl) (by simp) ?_
      refine AllReadyH.cons (by simp; rfl) (fun K hK => ?_) AllReadyH.nil
      go_simp
      (go_at_call 28; (with_reducible refine Calls.cZ (refIC (by omega)) ?_); intros)
      refine hK.out _ _ inferInstance ?_
      clear hHeld hK K
      intro hHeld
      try simp only [Act.put, List.setIfInBounds_toArray, List.set_cons_zero, List.set_cons_succ]
      refine wpAnyH_ready (rs := [9]) (by kernel_rfl) (by simp) ?_
      refine AllReadyH.cons (by simp; rfl) (fun K hK => ?_) AllReadyH.nil
      go_simp
      (go_at_call 24; (with_reducible refine Calls.cE (same02C (by omega) rfl) ?_); intros)
      refine hK.out _ _ inferInstance ?_
      clear hHeld hK K
      intro hHeld
      try simp only [Act.put, List.setIfInBounds_toArray, List.set_cons_zero, List.set_cons_succ]
      refine wpAnyH_take (i := 10) (v := ?z12) (by simp; rfl) (by kernel_rfl) (by kernel_rfl) (by kernel_rfl) (by exact fun _ _ _ h => h) (Or.inl ⟨by rfl, ?yz12⟩) hHeld ?_
      case yz12 => (intro wx hSw; have hSx := Ex1.mk hSw; go_simp; (try with_reducible rfl))
      try simp only [Act.put, List.setIfInBounds_toArray, List.set_cons_zero, List.set_cons_succ]
      refine wpAnyH_take (i := 11) (v := ?z13) (by simp; rfl) (by kernel_rfl) (by kernel_rfl) (by kernel_rfl) (by exact fun _ _ _ h => h) (Or.inl ⟨by rfl, ?yz13⟩) hHeld ?_
      case yz13 => (intro wx hSw; have hSx := Ex1.mk hSw; go_simp; (try with_reducible rfl))
      try simp only [Act.put, List.setIfInBounds_toArray, List.set_cons_zero, List.set_cons_succ]
      refine wpAnyH_take (i := 12) (v := ?z14) (by simp; rfl) (by kernel_rfl) (by kernel_rfl) (by kernel_rfl) (by exact fun _ _ _ h => h) (Or.inl ⟨by rfl, ?yz14⟩) hHeld ?_
      case yz14 => (intro wx hSw; have hSx := Ex1.mk hSw; go_simp; (try with_reducible rfl))
      try simp only [Act.put, List.setIfInBounds_toArray, List.set_cons_zero, List.set_cons_succ]
      refine wpAnyH_take (i := 14) (v := ?z15) (by simp; rfl) (by kernel_rfl) (by kernel_rfl) (by kernel_rfl) (by exact fun _ _ _ h => h) (Or.inl ⟨by rfl, ?yz15⟩) hHeld ?_
      case yz15 => (intro wx hSw; have hSx := Ex1.mk hSw; go_simp; (try with_reducible rfl))
      try simp only [Act.put, List.setIfInBounds_toArray, List.set_cons_zero, List.set_cons_succ]
      refine wpAnyH_ready (rs := [13]) (by kernel_rfl) (by simp) ?_
      refine AllReadyH.cons (by simp; rfl) (fun K hK => ?_) AllReadyH.nil
      go_simp
      (go_at_call 27; (with_reducible refine Calls.cE (intFormatC (by omega)) ?_); intros)
      refine hK.out _ _ inferInstance ?_
      clear hHeld hK K
      intro hHeld
      try simp only [Act.put, List.setIfInBounds_toArray, List.set_cons_zero, List.set_cons_succ]
      refine wpAnyH_ready (rs := [15]) (by kernel_rfl) (by simp) ?_
      refine AllReadyH.cons (by simp; rfl) (fun K hK => ?_) AllReadyH.nil
      go_simp
      (go_at_call 28; (with_reducible refine Calls.cZ (refIC (by omega)) ?_); intros)
      refine hK.out _ _ inferInstance ?_
      clear hHeld hK K
      intro hHeld
      try simp only [Act.put, List.setIfInBounds_toArray, List.set_cons_zero, List.set_cons_succ]
      refine wpAnyH_take (i := 16) (v := ?z16) (by simp; rfl) (by kernel_rfl) (by kernel_rfl) (by kernel_rfl) (by exact fun _ _ _ h => h) (Or.inl ⟨by rfl, ?yz16⟩) hHeld ?_
      case yz16 => (intro wx hSw; have hSx := Ex1.mk hSw; go_simp; (try with_reducible rfl))
      try simp only [Act.put, List.setIfInBounds_toArray, List.set_cons_zero, List.set_cons_succ]
      refine wpAnyH_ready (rs := [17]) (by kernel_rfl) (by simp) ?_
      refine AllReadyH.cons (by simp; rfl) (fun K hK => ?_) AllReadyH.nil
      go_simp
      (go_at_call 29; (with_reducible refine Calls.cE (numFormatZ (by omega)) ?_); intros)
      refine hK.out _ _ inferInstance ?_
      clear hHeld hK K
      intro hHeld
      try simp only [Act.put, List.setIfInBounds_toArray, List.set_cons_zero, List.set_cons_succ]
      refine wpAnyH_take (i := 18) (v := ?z17) (by simp; rfl) (by kernel_rfl) (by kernel_rfl) (by kernel_rfl) (by exact fun _ _ _ h => h) (Or.inl ⟨by rfl, ?yz17⟩) hHeld ?_
      case yz17 => (intro wx hSw; have hSx := Ex1.mk hSw; go_simp; (try with_reducible rfl))
      try simp only [Act.put, List.setIfInBounds_toArray, List.set_cons_zero, List.set_cons_succ]
      refine wpAnyH_take (i := 19) (v := ?z18) (by simp; rfl) (by kernel_rfl) (by kernel_rfl) (by kernel_rfl) (by exact fun _ _ _ h => h) (Or.inl ⟨by rfl, ?yz18⟩) hHeld ?_
      case yz18 => (intro wx hSw; have hSx := Ex1.mk hSw; go_simp; (try with_reducible rfl))
      try simp only [Act.put, List.setIfInBounds_toArray, List.set_cons_zero, List.set_cons_succ]
      refine wpAnyH_take (i := 20) (v := ?z19) (by simp; rfl) (by kernel_rfl) (by kernel_rfl) (by kernel_rfl) (by exact fun _ _ _ h => h) (Or.inl ⟨by rfl, ?yz19⟩) hHeld ?_
      case yz19 => (intro wx hSw; have hSx := Ex1.mk hSw; go_simp; (try with_reducible rfl))
      try simp only [Act.put, List.setIfInBounds_toArray, List.set_cons_zero, List.set_cons_succ]
      refine wpAnyH_done (by kernel_rfl) ?_ _
      clear hHeld
      go_wp2
      go_ret
      exact E.fin rfl
    · have := pk2 hk
      have h2 := iDig_len s.data.toList
      have h3 := str_len s
      omega
    · have HK := Lib.hid hk
      clear hk
      go_enter Tryd.func5, Tryd.ntmps5
      go_wp2_with fail
      with_reducible refine Calls.kInt (iparse0 inferInstance inferInstance (by omega) (z := iVal s.data.toList) ⟨HK.out, rfl⟩) ?_
      intro W3 _ g3 a3 l3 c3 _
      go_wp2_with fail
      with_reducible refine Calls.kReadI (readIC (by omega) HK.out (z := iVal s.data.toList) rfl) ?_
      intro W4 _ g4 a4 n4 c4 _
      go_wp2_with fail
      with_reducible refine Calls.cE (same02C (by omega) rfl) ?_
      intro W5 _
      go_wp2_with fail
      with_reducible refine Calls.cNew (newW (w0.keep (inferInstance : Kp w _).out)) ?_
      intro W6 _ _
      go_wp2_with fail
      with_reducible refine Calls.cTI madeC ?_
      intro W7 _ _ g7 a7 l7 c7 x i7
      have HD := ci_dl i7 (by omega)
      have HPK := Lib.hid (dec_kindI (x := x) (by omega))
      have HSZ : Hid ((decI x).size ≤ 1000000000) := by have := decI_size2 x; show _ ≤ _; omega
      go_wp2_with fail
      with_reducible refine Calls.cE (intFormatC (by omega)) ?_
      intro W8 _
      go_wp2_with fail
      with_reducible refine Calls.kInt (iparse0 inferInstance inferInstance HSZ.out (z := x) HPK.out) ?_
      intro W9 _ g9 a9 l9 c9 _
      go_wp2_with fail
      refine region_cls (by kernel_rfl) [] (fun hHeld => ?_)
      refine wpAnyH_ready (rs := [0]) (by kernel_rfl) (by simp) ?_
      refine AllReadyH.cons (by simp; rfl) (fun K hK => ?_) AllReadyH.nil
      go_simp
      (go_at_call 20; (with_reducible refine Calls.cE (known02C) ?_); intros)
      refine hK.out _ _ inferInstance ?_
      clear hHeld hK K
      intro hHeld
      try simp only [Act.put, List.setIfInBounds_toArray, List.set_cons_zero, List.set_cons_succ]
      refine wpAnyH_take (i := 1) (v := ?z20) (by simp; rfl) (by kernel_rfl) (by kernel_rfl) (by kernel_rfl) (by exact fun _ _ _ h => h) (Or.inl ⟨by rfl, ?yz20⟩) hHeld ?_
      case yz20 => (intro wx hSw; have hSx := Ex1.mk hSw; go_simp; (try with_reducible rfl))
      try simp only [Act.put, List.setIfInBounds_toArray, List.set_cons_zero, List.set_cons_succ]
      refine wpAnyH_take (i := 2) (v := ?z21) (by simp; rfl) (by kernel_rfl) (by kernel_rfl) (by kernel_rfl) (by exact fun _ _ _ h => h) (Or.inl ⟨by rfl, ?yz21⟩) hHeld ?_
      case yz21 => (intro wx hSw; have hSx := Ex1.mk hSw; go_simp; (try with_reducible rfl))
      try simp only [Act.put, List.setIfInBounds_toArray, List.set_cons_zero, List.set_cons_succ]
      refine wpAnyH_take (i := 3) (v := ?z22) (by simp; rfl) (by kernel_rfl) (by kernel_rfl) (by kernel_rfl) (by exact fun _ _ _ h => h) (Or.inl ⟨by rfl, ?yz22⟩) hHeld ?_
      case yz22 => (intro wx hSw; have hSx := Ex1.mk hSw; go_simp; (try with_reducible rfl))
      try simp only [Act.put, List.setIfInBounds_toArray, List.set_cons_zero, List.set_cons_succ]
      refine wpAnyH_take (i := 4) (v := ?z23) (by simp; rfl) (by kernel_rfl) (by kernel_rfl) (by kernel_rfl) (by exact fun _ _ _ h => h) (Or.inl ⟨by rfl, ?yz23⟩) hHeld ?_
      case yz23 => (intro wx hSw; have hSx := Ex1.mk hSw; go_simp; (try with_reducible rfl))
      try simp only [Act.put, List.setIfInBounds_toArray, List.set_cons_zero, List.set_cons_succ]
      refine wpAnyH_take (i := 5) (v := ?z24) (by simp; rfl) (by kernel_rfl) (by kernel_rfl) (by kernel_rfl) (by exact fun _ _ _ h => h) (Or.inl ⟨by rfl, ?yz24⟩) hHeld ?_
      case yz24 => (intro wx hSw; have hSx := Ex1.mk hSw; go_simp; (try with_reducible rfl))
      try simp only [Act.put, List.setIfInBounds_toArray, List.set_cons_zero, List.set_cons_succ]
      refine wpAnyH_take (i := 6) (v := ?z25) (by simp; rfl) (by kernel_rfl) (by kernel_rfl) (by kernel_rfl) (by exact fun _ _ _ h => h) (Or.inl ⟨by rfl, ?yz25⟩) hHeld ?_
      case yz25 => (intro wx hSw; have hSx := Ex1.mk hSw; go_simp; (try with_reducible rfl))
      try simp only [Act.put, List.setIfInBounds_toArray, List.set_cons_zero, List.set_cons_succ]
      refine wpAnyH_take (i := 7) (v := ?z26) (by simp; rfl) (by kernel_rfl) (by kernel_rfl) (by kernel_rfl) (by exact fun _ _ _ h => h) (Or.inl ⟨by rfl, ?yz26⟩) hHeld ?_
      case yz26 => (intro wx hSw; have hSx := Ex1.mk hSw; go_simp; (try with_reducible rfl))
      try simp only [Act.put, List.setIfInBounds_toArray, List.set_cons_zero, List.set_cons_succ]
      refine wpAnyH_ready (rs := [8]) (by kernel_rfl) (by simp) ?_
      refine AllReadyH.cons (by simp; rfl) (fun K hK => ?_) AllReadyH.nil
      go_simp
      (go_at_call 28; (with_reducible refine Calls.cZ (refIC (by omega)) ?_); intros)
      refine hK.out _ _ inferInstance ?_
      clear hHeld hK K
      intro hHeld
      try simp only [Act.put, List.setIfInBounds_toArray, List.set_cons_zero, List.set_cons_succ]
      refine wpAnyH_ready (rs := [9]) (by kernel_rfl) (by simp) ?_
      refine AllReadyH.cons (by simp; rfl) (fun K hK => ?_) AllReadyH.nil
      go_simp
      (go_at_call 24; (with_reducible refine Calls.cE (same02C (by omega) rfl) ?_); intros)
      refine hK.out _ _ inferInstance ?_
      clear hHeld hK K
      intro hHeld
      try simp only [Act.put, List.setIfInBounds_toArray, List.set_cons_zero, List.set_cons_succ]
      refine wpAnyH_take (i := 10) (v := ?z27) (by simp; rfl) (by kernel_rfl) (by kernel_rfl) (by kernel_rfl) (by exact fun _ _ _ h => h) (Or.inl ⟨by rfl, ?yz27⟩) hHeld ?_
      case yz27 => (intro wx hSw; have hSx := Ex1.mk hSw; go_simp; (try with_reducible rfl))
      try simp only [Act.put, List.setIfInBounds_toArray, List.set_cons_zero, List.set_cons_succ]
      refine wpAnyH_take (i := 11) (v := ?z28) (by simp; rfl) (by kernel_rfl) (by kernel_rfl) (by kernel_rfl) (by exact fun _ _ _ h => h) (Or.inl ⟨by rfl, ?yz28⟩) hHeld ?_
      case yz28 => (intro wx hSw; have hSx := Ex1.mk hSw; go_simp; (try with_reducible rfl))
      try simp only [Act.put, List.setIfInBounds_toArray, List.set_cons_zero, List.set_cons_succ]
      refine wpAnyH_take (i := 12) (v := ?z29) (by simp; rfl) (by kernel_rfl) (by kernel_rfl) (by kernel_rfl) (by exact fun _ _ _ h => h) (Or.inl ⟨by rfl, ?yz29⟩) hHeld ?_
      case yz29 => (intro wx hSw; have hSx := Ex1.mk hSw; go_simp; (try with_reducible rfl))
      try simp only [Act.put, List.setIfInBounds_toArray, List.set_cons_zero, List.set_cons_succ]
      refine wpAnyH_take (i := 14) (v := ?z30) (by simp; rfl) (by kernel_rfl) (by kernel_rfl) (by kernel_rfl) (by exact fun _ _ _ h => h) (Or.inl ⟨by rfl, ?yz30⟩) hHeld ?_
      case yz30 => (intro wx hSw; have hSx := Ex1.mk hSw; go_simp; (try with_reducible rfl))
      try simp only [Act.put, List.setIfInBounds_toArray, List.set_cons_zero, List.set_cons_succ]
      refine wpAnyH_ready (rs := [13]) (by kernel_rfl) (by simp) ?_
      refine AllReadyH.cons (by simp; rfl) (fun K hK => ?_) AllReadyH.nil
      go_simp
      (go_at_call 27; (with_reducible refine Calls.cE (intFormatC (by omega)) ?_); intros)
      refine hK.out _ _ inferInstance ?_
      clear hHeld hK K
      intro hHeld
      try simp only [Act.put, List.setIfInBounds_toArray, List.set_cons_zero, List.set_cons_succ]
      refine wpAnyH_ready (rs := [15]) (by kernel_rfl) (by simp) ?_
      refine AllReadyH.cons (by simp; rfl) (fun K hK => ?_) AllReadyH.nil
      go_simp
      (go_at_call 28; (with_reducible refine Calls.cZ (refIC (by omega)) ?_); intros)
      refine hK.out _ _ inferInstance ?_
      clear hHeld hK K
      intro hHeld
      try simp only [Act.put, List.setIfInBounds_toArray, List.set_cons_zero, List.set_cons_succ]
      refine wpAnyH_take (i := 16) (v := ?z31) (by simp; rfl) (by kernel_rfl) (by kernel_rfl) (by kernel_rfl) (by exact fun _ _ _ h => h) (Or.inl ⟨by rfl, ?yz31⟩) hHeld ?_
      case yz31 => (intro wx hSw; have hSx := Ex1.mk hSw; go_simp; (try with_reducible rfl))
      try simp only [Act.put, List.setIfInBounds_toArray, List.set_cons_zero, List.set_cons_succ]
      refine wpAnyH_ready (rs := [17]) (by kernel_rfl) (by simp) ?_
      refine AllReadyH.cons (by simp; rfl) (fun K hK => ?_) AllReadyH.nil
      go_simp
      (go_at_call 29; (with_reducible refine Calls.cE (numFormatZ (by omega)) ?_); intros)
      refine hK.out _ _ inferInstance ?_
      clear hHeld hK K
      intro hHeld
      try simp only [Act.put, List.setIfInBounds_toArray, List.set_cons_zero, List.set_cons_succ]
      refine wpAnyH_take (i := 18) (v := ?z32) (by simp; rfl) (by kernel_rfl) (by kernel_rfl) (by kernel_rfl) (by exact fun _ _ _ h => h) (Or.inl ⟨by rfl, ?yz32⟩) hHeld ?_
      case yz32 => (intro wx hSw; have hSx := Ex1.mk hSw; go_simp; (try with_reducible rfl))
      try simp only [Act.put, List.setIfInBounds_toArray, List.set_cons_zero, List.set_cons_succ]
      refine wpAnyH_take (i := 19) (v := ?z33) (by simp; rfl) (by kernel_rfl) (by kernel_rfl) (by kernel_rfl) (by exact fun _ _ _ h => h) (Or.inl ⟨by rfl, ?yz33⟩) hHeld ?_
      case yz33 => (intro wx hSw; have hSx := Ex1.mk hSw; go_simp; (try with_reducible rfl))
      try simp only [Act.put, List.setIfInBounds_toArray, List.set_cons_zero, List.set_cons_succ]
      refine wpAnyH_take (i := 20) (v := ?z34) (by simp; rfl) (by kernel_rfl) (by kernel_rfl) (by kernel_rfl) (by exact fun _ _ _ h => h) (Or.inl ⟨by rfl, ?yz34⟩) hHeld ?_
      case yz34 => (intro wx hSw; have hSx := Ex1.mk hSw; go_simp; (try with_reducible rfl))
      try simp only [Act.put, List.setIfInBounds_toArray, List.set_cons_zero, List.set_cons_succ]
      refine wpAnyH_done (by kernel_rfl) ?_ _
      clear hHeld
      go_wp2
      go_ret
      exact E.fin rfl
  · go_enter Tryd.func5, Tryd.ntmps5
    go_wp2_with fail
    with_reducible refine Calls.cE known02C ?_
    intro W3 _
    go_wp2_with fail
    go_ret
    exact E.fin rfl
end Go.Proofs.YtnkfbkdcplbgoaaDoor
