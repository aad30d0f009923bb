/-
  Contract of nat.DivMod, given that of nat.long; and the laws' helper 'known' of layer 1.
-/
import Derived.Test.YtlameeijogdckaaGreatFormat
import Derived.Test.YtlameeijogdckaaGreatAdd
namespace Go.Proofs.YtlameeijogdckaaGreat
open Go.RowKit

/-- What long returns: quotient and remainder of a number by one of at least two digits that is not greater. -/
def LongSaid : Prop := ∀ (w : World) (a b : Option Addr) (capa capb m n : Nat), 2 ≤ (nf n).length → n ≤ m → (nf m).length ≤ 1000000 → (nf m).length ≤ capa → (nf n).length ≤ capb → capa ≤ 9223372036854775807 → capb ≤ 9223372036854775807 → Cells w a (nf m) → Cells w b (nf n) →
  Calls Tryz.prog 231 #[.slice a (nf m).length capa, .slice b (nf n).length capb] w fun e w' => ∃ q r, e = .returned (.tuple #[q, r]) ∧ Own w' w.heap.size q (nf (m / n)) ∧ Own w' w.heap.size r (nf (m % n)) ∧ Below w.heap.size w w'

/-- What DivMod returns. -/
def DivPost (w : World) (m n : Nat) (e : Ending) (w' : World) : Prop :=
  ∃ q r, e = .returned (.tuple #[q, r, .bool (decide (n ≠ 0))]) ∧ Own w' w.heap.size q (nf (m / n)) ∧ Own w' w.heap.size r (nf (if n = 0 then 0 else m % n)) ∧ Below w.heap.size w w'

set_option maxRecDepth 100000 in
set_option maxHeartbeats 1000000 in
theorem divmod_any (w : World) (u v : Value) (la lb : List Nat) (hu : Rd w u la) (hv : Rd w v lb) (hla : la.length ≤ 1000000) (hlong : val lb < 4294967296 ∨ LongSaid) :
    Calls Tryz.prog 204 #[u, v] w (DivPost w (val la) (val lb)) := by
  have hle1 := nf_val_len hu.dig
  go_enter Tryz.func204, Tryz.ntmps204
  go_wp2_with fail
  refine (trim_any _ _ _ hu).mono ?_
  rintro e w1 ⟨u', rfl, hu', rfl⟩
  go_wp2_with fail
  refine (trim_any _ _ _ hv).mono ?_
  rintro e w1 ⟨v', rfl, hv', rfl⟩
  have hxl : (nf (val la)).length ≤ 1000000 := by omega
  generalize val la = m at *
  generalize val lb = n at *
  have hu2 := hu'
  have hv2 := hv'
  obtain ⟨b, capb, rfl, hcb, hcbm, hdb, hrb⟩ := hv'
  clear hu hv hle1 hla
  by_cases hn : n = 0
  · subst hn
    have hl0 : (nf 0).length = 0 := rfl
    generalize (nf 0).length = k at *
    subst hl0
    go_wp2
    go_ret3
    exact ⟨_, _, rfl, by rw [Nat.div_zero]; exact Own.nil _ _, Own.nil _ _, Below.refl _ _⟩
  · have hp := nf_len_pos hn
    have hb0 : (((nf n).length : Int) == 0) = false := by rw [beq_eq_false_iff_ne]; omega
    have HD := Lib.hid (decide_eq_true (show n ≠ 0 from hn))
    have HI := Lib.hid (show (if n = 0 then 0 else m % n) = m % n from if_neg hn)
    go_wp2_with fail
    refine (natCmp_any _ _ _ _ _ hu2 hv2).mono ?_
    rintro e w2 ⟨rfl, hb2⟩
    rw [val_nf, val_nf]
    by_cases hlt : m < n
    · rw [cmpN_lt hlt]
      have HQ := Lib.hid (Nat.div_eq_of_lt hlt)
      have HR := Lib.hid (Nat.mod_eq_of_lt hlt)
      clear hlt hn
      go_wp2_with fail
      refine (clone_any _ _ _ (hu2.keep hb2) hxl).mono ?_
      rintro e w3 ⟨z, rfl, hz, hb3⟩
      go_wp2
      go_ret3
      exact ⟨_, _, by rw [HD.out]; rfl, by rw [HQ.out]; exact Own.nil _ _, by rw [HI.out, HR.out]; exact hz.mono hb2.size, hb2.trans (hb3.mono hb2.size)⟩
    · have hge : 0 ≤ cmpN m n := by unfold cmpN; rw [if_neg hlt]; split <;> omega
      generalize cmpN m n = c at *
      by_cases h1 : (nf n).length = 1
      · obtain ⟨ba, off, rfl, hcell⟩ := hrb hp
        have c0 := (hb2.cell (Cells.below hrb hp _ _ rfl)).trans (hcell 0 hp)
        have hval := val_nf n
        have hd0 := dig_get hdb 0
        have hn0 : (nf n).getD 0 0 = n := by
          match hl : nf n, h1, hval with
          | [d], _, hval => rw [val_cons, val_nil] at hval; simpa using hval
        rw [hn0] at c0 hd0
        rw [Nat.add_zero] at c0
        have hs := short_any w2 _ _ n (hu2.keep hb2) hxl (by omega) hd0
        rw [val_nf] at hs
        have hml : m % n < n := Nat.mod_lt _ (by omega)
        have hf := fun w => fromUint_any w (m % n) (by omega)
        unfold ShortPost at hs
        have hb1 : (((nf n).length : Int) == 1) = true := by rw [h1]; rfl
        generalize hqq : m / n = q0 at hs
        generalize hrr : m % n = r0 at hs hml hf
        have HQQ := Lib.hid hqq
        have HRR := Lib.hid hrr
        clear hqq hrr
        clear hval hn0 hcell hlong h1
        go_wp2_with fail
        refine hs.mono ?_
        rintro e w3 ⟨z, rfl, hz, hb3⟩
        have hb23 := hb2.trans (hb3.mono hb2.size)
        have HS := Lib.hid hs
        clear hs
        go_wp2_with fail
        refine (hf _).mono ?_
        rintro e w4 ⟨y, rfl, hy, hb4⟩
        go_wp2
        go_ret3
        exact ⟨_, _, by rw [HD.out]; rfl, by rw [HQQ.out]; exact (hz.mono hb2.size).keep hb4, by rw [HI.out, HRR.out]; exact hy.mono (Nat.le_trans hb2.size hb3.size), hb23.trans (hb4.mono hb23.size)⟩
      · have hb1 : (((nf n).length : Int) == 1) = false := by rw [beq_eq_false_iff_ne]; omega
        have hL : LongSaid := by
          rcases hlong with h | h
          · exfalso
            have := nf_len_le (n := n) (k := 1) (by simpa using h)
            omega
          · exact h
        have hu3 := hu2.keep hb2
        have hrb3 := hrb.keep hb2
        obtain ⟨a, capa, rfl, hca, hcam, hda, hra⟩ := hu3
        have hs := hL w2 a b capa capb m n (by omega) (by omega) hxl hca hcb hcam hcbm hra hrb3
        have HS := Lib.hid hs
        have HL := Lib.hid hL
        clear hs hL hlong
        go_wp2_with fail
        refine HS.out.mono ?_
        rintro e w3 ⟨q, r, rfl, hq, hr, hb3⟩
        go_wp2
        go_ret3
        exact ⟨_, _, by rw [HD.out]; rfl, hq.mono hb2.size, by rw [HI.out]; exact hr.mono hb2.size, hb2.trans (hb3.mono hb2.size)⟩

/-! ### literals -/
theorem rd_lit {w : World} {b : Nat} (hb : w.heap.size = b) (l : List Nat) (hd : Dig l) (hl : l.length ≤ 1000000) (cs : Array Value) (hcs : cs = (l.map dv).toArray) (n : Nat) (hn : n = l.length) :
    Rd (w.alloc (.cells cs 157)) (.slice (some ⟨b, 0, none⟩) n n) l := by
  subst hn; subst hb
  exact (own_lit w l hd hl cs hcs).rd
theorem blw_alloc {w w' : World} (h : Below w.heap.size w w') (o : Obj) : Below w.heap.size w (w'.alloc o) := h.alloc h.size o
theorem blw_one (w : World) (o : Obj) : Below w.heap.size w (w.alloc o) := (Below.refl _ _).alloc (Nat.le_refl _) o
theorem blw_trans {a b c : World} (h : Below a.heap.size a b) (k : Below b.heap.size b c) : Below a.heap.size a c := h.trans (k.mono h.size)
theorem dig1 {a : Nat} (ha : a < 4294967296) : Dig [a] := dig_cons ha dig_nil
theorem nf_one {a : Nat} (ha : a < 4294967296) (h0 : a ≠ 0) : nf a = [a] := by
  rw [nf_pos h0, Nat.mod_eq_of_lt ha, Nat.div_eq_of_lt ha, nf_zero]
theorem nf_B : nf 4294967296 = [0, 1] := by
  rw [nf_pos (by omega), show 4294967296 % 4294967296 = 0 from rfl, show 4294967296 / 4294967296 = 1 from rfl, nf_one (by omega) (by omega)]
theorem dec_B : decStr 4294967296 = ⟨#[52, 50, 57, 52, 57, 54, 55, 50, 57, 54]⟩ := by
  have h : dl 4294967296 = [6, 9, 2, 7, 6, 9, 4, 9, 2, 4] := by
    simp [dl_pos, dl_zero]
  unfold decStr
  rw [decBytes_pos (by omega), h]
  rfl
theorem dl_B : (dl 4294967296).length ≤ 100000000 := by
  have h : dl 4294967296 = [6, 9, 2, 7, 6, 9, 4, 9, 2, 4] := by
    simp [dl_pos, dl_zero]
  rw [h]; decide

end Go.Proofs.YtlameeijogdckaaGreat
