/-
  Contract of nat.DivMod, given that of nat.long; and the laws' helper 'known' of layer 1.
-/
import Derived.Test.YtnkfbkdcplbgoaaDoorFormat
import Derived.Test.YtnkfbkdcplbgoaaDoorAdd
namespace Go.Proofs.YtnkfbkdcplbgoaaDoor
open Go.RowKit

/-- What long returns: quotient and remainder of a number by one of at least two digits that is not greater. -/
def LongSaid : Prop := ∀ (w : World) (a b : Option Addr) (capa capb m n : Nat), 2 ≤ (nf n).length → n ≤ m → (nf m).length ≤ 1000000 → (nf m).length ≤ capa → (nf n).length ≤ capb → capa ≤ 9223372036854775807 → capb ≤ 9223372036854775807 → Cells w a (nf m) → Cells w b (nf n) →
  Calls Tryd.prog 74 #[.slice a (nf m).length capa, .slice b (nf n).length capb] w fun e w' => ∃ q r, e = .returned (.tuple #[q, r]) ∧ Own w' w.heap.size q (nf (m / n)) ∧ Own w' w.heap.size r (nf (m % n)) ∧ Below w.heap.size w w'

/-- What DivMod returns. -/
def DivPost (w : World) (m n : Nat) (e : Ending) (w' : World) : Prop :=
  ∃ q r, e = .returned (.tuple #[q, r, .bool (decide (n ≠ 0))]) ∧ Own w' w.heap.size q (nf (m / n)) ∧ Own w' w.heap.size r (nf (if n = 0 then 0 else m % n)) ∧ Below w.heap.size w w'

set_option maxRecDepth 100000 in
set_option maxHeartbeats 1000000 in
theorem divmod_any (w : World) (u v : Value) (la lb : List Nat) (hu : Rd w u la) (hv : Rd w v lb) (hla : la.length ≤ 1000000) (hlong : val lb < 4294967296 ∨ LongSaid) :
    Calls Tryd.prog 42 #[u, v] w (DivPost w (val la) (val lb)) := by
  have hle1 := nf_val_len hu.dig
  go_enter Tryd.func42, Tryd.ntmps42
  go_wp2_with fail
  refine (trim_any _ _ _ hu).mono ?_
  rintro e w1 ⟨u', rfl, hu', rfl⟩
  go_wp2_with fail
  refine (trim_any _ _ _ hv).mono ?_
  rintro e w1 ⟨v', rfl, hv', rfl⟩
  have hxl : (nf (val la)).length ≤ 1000000 := by omega
  generalize val la = m at *
  generalize val lb = n at *
  have hu2 := hu'
  have hv2 := hv'
  obtain ⟨b, capb, rfl, hcb, hcbm, hdb, hrb⟩ := hv'
  clear hu hv hle1 hla
  by_cases hn : n = 0
  · subst hn
    have hl0 : (nf 0).length = 0 := rfl
    generalize (nf 0).length = k at *
    subst hl0
    go_wp2
    go_ret3
    exact ⟨_, _, rfl, by rw [Nat.div_zero]; exact Own.nil _ _, Own.nil _ _, Below.refl _ _⟩
  · have hp := nf_len_pos hn
    have hb0 : (((nf n).length : Int) == 0) = false := by rw [beq_eq_false_iff_ne]; omega
    have HD := Lib.hid (decide_eq_true (show n ≠ 0 from hn))
    have HI := Lib.hid (show (if n = 0 then 0 else m % n) = m % n from if_neg hn)
    go_wp2_with fail
    refine (natCmp_any _ _ _ _ _ hu2 hv2).mono ?_
    rintro e w2 ⟨rfl, hb2⟩
    rw [val_nf, val_nf]
    by_cases hlt : m < n
    · rw [cmpN_lt hlt]
      have HQ := Lib.hid (Nat.div_eq_of_lt hlt)
      have HR := Lib.hid (Nat.mod_eq_of_lt hlt)
      clear hlt hn
      go_wp2_with fail
      refine (clone_any _ _ _ (hu2.keep hb2) hxl).mono ?_
      rintro e w3 ⟨z, rfl, hz, hb3⟩
      go_wp2
      go_ret3
      exact ⟨_, _, by rw [HD.out]; rfl, by rw [HQ.out]; exact Own.nil _ _, by rw [HI.out, HR.out]; exact hz.mono hb2.size, hb2.trans (hb3.mono hb2.size)⟩
    · have hge : 0 ≤ cmpN m n := by unfold cmpN; rw [if_neg hlt]; split <;> omega
      generalize cmpN m n = c at *
      by_cases h1 : (nf n).length = 1
      · obtain ⟨ba, off, rfl, hcell⟩ := hrb hp
        have c0 := (hb2.cell (Cells.below hrb hp _ _ rfl)).trans (hcell 0 hp)
        have hval := val_nf n
        have hd0 := dig_get hdb 0
        have hn0 : (nf n).getD 0 0 = n := by
          match hl : nf n, h1, hval with
          | [d], _, hval => rw [val_cons, val_nil] at hval; simpa using hval
        rw [hn0] at c0 hd0
        rw [Nat.add_zero] at c0
        have hs := short_any w2 _ _ n (hu2.keep hb2) hxl (by omega) hd0
        rw [val_nf] at hs
        have hml : m % n < n := Nat.mod_lt _ (by omega)
        have hf := fun w => fromUint_any w (m % n) (by omega)
        unfold ShortPost at hs
        have hb1 : (((nf n).length : Int) == 1) = true := by rw [h1]; rfl
        generalize hqq : m / n = q0 at hs
        generalize hrr : m % n = r0 at hs hml hf
        have HQQ := Lib.hid hqq
        have HRR := Lib.hid hrr
        clear hqq hrr
        clear hval hn0 hcell hlong h1
        go_wp2_with fail
        refine hs.mono ?_
        rintro e w3 ⟨z, rfl, hz, hb3⟩
        have hb23 := hb2.trans (hb3.mono hb2.size)
        have HS := Lib.hid hs
        clear hs
        go_wp2_with fail
        refine (hf _).mono ?_
        rintro e w4 ⟨y, rfl, hy, hb4⟩
        go_wp2
        go_ret3
        exact ⟨_, _, by rw [HD.out]; rfl, by rw [HQQ.out]; exact (hz.mono hb2.size).keep hb4, by rw [HI.out, HRR.out]; exact hy.mono (Nat.le_trans hb2.size hb3.size), hb23.trans (hb4.mono hb23.size)⟩
      · have hb1 : (((nf n).length : Int) == 1) = false := by rw [beq_eq_false_iff_ne]; omega
        have hL : LongSaid := by
          rcases hlong with h | h
          · exfalso
            have := nf_len_le (n := n) (k := 1) (by simpa using h)
            omega
          · exact h
        have hu3 := hu2.keep hb2
        have hrb3 := hrb.keep hb2
        obtain ⟨a, capa, rfl, hca, hcam, hda, hra⟩ := hu3
        have hs := hL w2 a b capa capb m n (by omega) (by omega) hxl hca hcb hcam hcbm hra hrb3
        have HS := Lib.hid hs
        have HL := Lib.hid hL
        clear hs hL hlong
        go_wp2_with fail
        refine HS.out.mono ?_
        rintro e w3 ⟨q, r, rfl, hq, hr, hb3⟩
        go_wp2
        go_ret3
        exact ⟨_, _, by rw [HD.out]; rfl, hq.mono hb2.size, by rw [HI.out]; exact hr.mono hb2.size, hb2.trans (hb3.mono hb2.size)⟩

/-! ### literals -/
theorem rd_lit {w : World} {b : Nat} (hb : w.heap.size = b) (l : List Nat) (hd : Dig l) (hl : l.length ≤ 1000000) (cs : Array Value) (hcs : cs = (l.map dv).toArray) (n : Nat) (hn : n = l.length) :
    Rd (w.alloc (.cells cs 79)) (.slice (some ⟨b, 0, none⟩) n n) l := by
  subst hn; subst hb
  exact (own_lit w l hd hl cs hcs).rd
theorem blw_alloc {w w' : World} (h : Below w.heap.size w w') (o : Obj) : Below w.heap.size w (w'.alloc o) := h.alloc h.size o
theorem blw_one (w : World) (o : Obj) : Below w.heap.size w (w.alloc o) := (Below.refl _ _).alloc (Nat.le_refl _) o
theorem blw_trans {a b c : World} (h : Below a.heap.size a b) (k : Below b.heap.size b c) : Below a.heap.size a c := h.trans (k.mono h.size)
theorem dig1 {a : Nat} (ha : a < 4294967296) : Dig [a] := dig_cons ha dig_nil
theorem nf_one {a : Nat} (ha : a < 4294967296) (h0 : a ≠ 0) : nf a = [a] := by
  rw [nf_pos h0, Nat.mod_eq_of_lt ha, Nat.div_eq_of_lt ha, nf_zero]
theorem nf_B : nf 4294967296 = [0, 1] := by
  rw [nf_pos (by omega), show 4294967296 % 4294967296 = 0 from rfl, show 4294967296 / 4294967296 = 1 from rfl, nf_one (by omega) (by omega)]
theorem dec_B : decStr 4294967296 = ⟨#[52, 50, 57, 52, 57, 54, 55, 50, 57, 54]⟩ := by
  have h : dl 4294967296 = [6, 9, 2, 7, 6, 9, 4, 9, 2, 4] := by
    simp [dl_pos, dl_zero]
  unfold decStr
  rw [decBytes_pos (by omega), h]
  rfl
theorem dl_B : (dl 4294967296).length ≤ 100000000 := by
  have h : dl 4294967296 = [6, 9, 2, 7, 6, 9, 4, 9, 2, 4] := by
    simp [dl_pos, dl_zero]
  rw [h]; decide

set_option maxRecDepth 100000 in
set_option maxHeartbeats 1000000 in
/-- Layer 1's sanity check answers true. -/
theorem known_any (w : World) : Calls Tryd.prog 11 #[] w fun e w' => e = .returned (.bool true) ∧ Below w.heap.size w w' := by
  have r1 := rd_lit (w := w) rfl [4294967295] (dig1 (by omega)) (by simp) #[.int .u32 4294967295] rfl 1 rfl
  have r2 := rd_lit (w := w.alloc (.cells #[.int .u32 4294967295] 79)) (b := w.heap.size + 1) (by simp) [1] (dig1 (by omega)) (by simp) #[.int .u32 1] rfl 1 rfl
  have B2 := blw_alloc (blw_one w (.cells #[.int .u32 4294967295] 79)) (.cells #[.int .u32 1] 79)
  have r1' := r1.keep (blw_one _ (.cells #[.int .u32 1] 79))
  have hs : nf (val [4294967295] + val [1]) = [0, 1] := nf_B
  have A1 := add_any _ _ _ _ _ r1' r2 (by simp) (by simp)
  rw [hs] at A1
  have HA1 := Lib.hid A1
  clear A1 r1 r2 r1' hs
  go_enter Tryd.func11, Tryd.ntmps11
  go_wp2_with fail
  refine HA1.out.mono ?_
  rintro e w3 ⟨z1, rfl, hz1, b3⟩
  have B3 := blw_trans B2 b3
  have HZ1 := hz1.rd
  clear HA1 hz1 B2 b3
  have r1 := rd_lit (w := w3) rfl [7] (dig1 (by omega)) (by simp) #[.int .u32 7] rfl 1 rfl
  have r2 := rd_lit (w := w3.alloc (.cells #[.int .u32 7] 79)) (b := w3.heap.size + 1) (by simp) [2] (dig1 (by omega)) (by simp) #[.int .u32 2] rfl 1 rfl
  have A1 := divmod_any _ _ _ _ _ (r1.keep (blw_one _ (.cells #[.int .u32 2] 79))) r2 (by simp) (.inl (by rw [val_cons, val_nil]; omega))
  have b4 := blw_alloc (blw_one w3 (.cells #[.int .u32 7] 79)) (.cells #[.int .u32 2] 79)
  have HA1 := Lib.hid A1
  clear A1 r1 r2
  go_wp2_with fail
  refine HA1.out.mono ?_
  rintro e w5 ⟨q, r, rfl, hq, hr, b5⟩
  have B5 := blw_trans (blw_trans B3 b4) b5
  have HZ2 := HZ1.keep (blw_trans b4 b5)
  have hq2 : Own w5 _ q [3] := hq
  have hr2 : Own w5 _ r [1] := hr
  have HQ := hq2.rd
  have HR := hr2.rd
  clear hq hr hq2 hr2 HZ1 HA1 b4 b5 B3
  rw [show decide (val [2] ≠ 0) = true from rfl]
  have r1 := rd_lit (w := w5) rfl [0, 1] (dig_cons (by omega) (dig1 (by omega))) (by simp) #[.int .u32 0, .int .u32 1] rfl 2 rfl
  have A1 := sameN_any _ _ _ _ _ (HZ2.keep (blw_one w5 (.cells #[.int .u32 0, .int .u32 1] 79))) r1
  have HA1 := Lib.hid A1
  have b6 := blw_one w5 (.cells #[.int .u32 0, .int .u32 1] 79)
  clear A1 r1
  go_wp2_with fail
  refine HA1.out.mono ?_
  rintro e w7 ⟨rfl, b7⟩
  rw [show sameB [0, 1] [0, 1] = true from rfl]
  have b57 := blw_trans b6 b7
  have B7 := blw_trans B5 b57
  have HZ3 := HZ2.keep b57
  have HQ2 := HQ.keep b57
  have HR2 := HR.keep b57
  clear HZ2 HQ HR B5 b6 b7 b57 HA1
  have r1 := rd_lit (w := w7) rfl [3] (dig1 (by omega)) (by simp) #[.int .u32 3] rfl 1 rfl
  have A1 := sameN_any _ _ _ _ _ (HQ2.keep (blw_one w7 (.cells #[.int .u32 3] 79))) r1
  have HA1 := Lib.hid A1
  have b6 := blw_one w7 (.cells #[.int .u32 3] 79)
  clear A1 r1
  go_wp2_with fail
  refine HA1.out.mono ?_
  rintro e w9 ⟨rfl, b7⟩
  rw [show sameB [3] [3] = true from rfl]
  have b57 := blw_trans b6 b7
  have B9 := blw_trans B7 b57
  have HZ4 := HZ3.keep b57
  have HR3 := HR2.keep b57
  clear HZ3 HQ2 HR2 B7 b6 b7 b57 HA1
  have r1 := rd_lit (w := w9) rfl [1] (dig1 (by omega)) (by simp) #[.int .u32 1] rfl 1 rfl
  have A1 := sameN_any _ _ _ _ _ (HR3.keep (blw_one w9 (.cells #[.int .u32 1] 79))) r1
  have HA1 := Lib.hid A1
  have b6 := blw_one w9 (.cells #[.int .u32 1] 79)
  clear A1 r1
  go_wp2_with fail
  refine HA1.out.mono ?_
  rintro e w11 ⟨rfl, b7⟩
  rw [show sameB [1] [1] = true from rfl]
  have b57 := blw_trans b6 b7
  have B11 := blw_trans B9 b57
  have HZ5 := HZ4.keep b57
  clear HZ4 HR3 B9 b6 b7 b57 HA1
  have A1 := format_any _ _ _ HZ5 (by simp) (show (dl (val [0, 1])).length ≤ 100000000 from dl_B)
  rw [show decStr (val [0, 1]) = _ from dec_B] at A1
  have HA1 := Lib.hid A1
  clear A1
  go_wp2_with fail
  refine HA1.out.mono ?_
  rintro e w12 ⟨rfl, b12⟩
  go_wp2
  go_ret
  exact ⟨rfl, blw_trans B11 b12⟩
end Go.Proofs.YtnkfbkdcplbgoaaDoor
