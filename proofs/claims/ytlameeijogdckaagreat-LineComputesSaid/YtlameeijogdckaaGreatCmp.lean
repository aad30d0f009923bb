/-
  Contracts of the functions that compare digits: nat.Cmp, ref.SameN, num.Cmp.
-/
import Derived.Test.YtlameeijogdckaaGreatTrim
namespace Go.Proofs.YtlameeijogdckaaGreat
open Go.RowKit

theorem int_bne_true {x y : Nat} (h : x ≠ y) : ((x : Int) != (y : Int)) = true := by
  rw [bne_iff_ne]; omega
theorem int_bne_false {x y : Nat} (h : x = y) : ((x : Int) != (y : Int)) = false := by
  subst h; simp
theorem list_ext_getD {l m : List Nat} (h : l.length = m.length) (hh : ∀ j, j < l.length → l.getD j 0 = m.getD j 0) : l = m := by
  apply List.ext_getElem h
  intro i h1 h2
  have := hh i h1
  rw [List.getD_eq_getElem?_getD, List.getD_eq_getElem?_getD, List.getElem?_eq_getElem h1, List.getElem?_eq_getElem h2] at this
  exact this
def sameB (l m : List Nat) : Bool := decide (l = m)
theorem sameB_of {l m : List Nat} (h : l = m) : sameB l m = true := by simp [sameB, h]
theorem sameB_len {l m : List Nat} (h : l.length ≠ m.length) : sameB l m = false := by
  simp only [sameB, decide_eq_false_iff_not]
  intro e; rw [e] at h; exact h rfl
theorem sameB_ne {l m : List Nat} {j : Nat} (h : l.getD j 0 ≠ m.getD j 0) : sameB l m = false := by
  simp only [sameB, decide_eq_false_iff_not]
  intro e; rw [e] at h; exact h rfl

set_option maxRecDepth 100000 in
set_option maxHeartbeats 1000000 in
theorem sameN_raw (w : World) (a b : Option Addr) (capa capb : Nat) (la lb : List Nat) (hla : la.length ≤ 9223372036854775807)
    (hda : Dig la) (hdb : Dig lb) (hra : Cells w a la) (hrb : Cells w b lb) :
    Calls Tryz.prog 131 #[.slice a la.length capa, .slice b lb.length capb] w fun e w' => e = .returned (.bool (sameB la lb)) ∧ Below w.heap.size w w' := by
  by_cases hlen : la.length = lb.length
  · have hne := int_bne_false hlen
    have HL := Lib.hid hlen
    have hlb2 : lb.length ≤ la.length := by omega
    clear hlen
    go_enter Tryz.func131, Tryz.ntmps131
    go_wp2
    go_loopw [13] (fun i wr => ∃ k : Nat, k ≤ la.length ∧ i = .int .i64 k ∧ Below w.heap.size w wr ∧ Hid (∀ j, j < k → la.getD j 0 = lb.getD j 0)) (fun i _ => la.length - (intOf i).toNat)
    case atStart => exact ⟨0, Nat.zero_le _, rfl, Below.refl _ _, fun j hj => absurd hj (by omega)⟩
    case round =>
      obtain ⟨k, hk, rfl, hB, hE⟩ := hrel
      by_cases hlt : k < la.length
      · have hltb : k < lb.length := by have := HL.out; omega
        obtain ⟨ba, offa, rfl, cA⟩ := hra.at hB hlt
        obtain ⟨bb, offb, rfl, cB⟩ := hrb.at hB hltb
        have hx := dig_get hda k
        have hy := dig_get hdb k
        have hne2 : la.getD k 0 ≠ lb.getD k 0 → Hid (sameB la lb = false) := fun h => sameB_ne h
        have heq2 : la.getD k 0 = lb.getD k 0 → Hid (∀ j, j < k + 1 → la.getD j 0 = lb.getD j 0) := fun h j hj => by
          rcases Nat.lt_succ_iff_lt_or_eq.1 hj with h1 | rfl
          · exact hE.out j h1
          · exact h
        have h0k : (0 : Int) ≤ (k : Int) := by omega
        have hka : (k : Int) < (la.length : Int) := by omega
        have hkb : (k : Int) < (lb.length : Int) := by omega
        generalize la.getD k 0 = x at *
        generalize lb.getD k 0 = y at *
        by_cases hxy : x = y
        · have hb2 := int_bne_false hxy
          have HN := heq2 hxy
          clear hne2 heq2 hxy hra hrb
          go_wp2
          go_quiet (fail)
          go_wp2
          go_roundw
          case rel => exact ⟨k + 1, by omega, by go_num, blw_drewN hB _, HN⟩
          case measure => simp [intOf]; omega
        · have hb2 := int_bne_true hxy
          have HN := hne2 hxy
          clear hne2 heq2 hxy hra hrb
          go_wp2
          go_quiet (fail)
          go_wp2
          go_ret
          exact ⟨by rw [HN.out]; rfl, blw_drewN hB _⟩
      · have hkl : k = la.length := by omega
        have HN : Hid (sameB la lb = true) := sameB_of (list_ext_getD HL.out (fun j hj => hE.out j (by omega)))
        clear hkl
        go_wp2
        go_ret
        exact ⟨by rw [HN.out]; rfl, hB⟩
  · have hne := int_bne_true hlen
    have HN := Lib.hid (sameB_len hlen)
    clear hlen
    go_enter Tryz.func131, Tryz.ntmps131
    go_wp2
    go_ret
    exact ⟨by rw [HN.out]; rfl, Below.refl _ _⟩

theorem sameN_any (w : World) (u v : Value) (la lb : List Nat) (hu : Rd w u la) (hv : Rd w v lb) :
    Calls Tryz.prog 131 #[u, v] w fun e w' => e = .returned (.bool (sameB la lb)) ∧ Below w.heap.size w w' := by
  obtain ⟨a, capa, rfl, h1, h2, hda, hra⟩ := hu
  obtain ⟨b, capb, rfl, h3, h4, hdb, hrb⟩ := hv
  exact sameN_raw w a b capa capb la lb (by omega) hda hdb hra hrb

/-- How two numbers compare: -1, 0 or 1. -/
def cmpN (m n : Nat) : Int := if m < n then -1 else if n < m then 1 else 0
theorem cmpN_lt {m n : Nat} (h : m < n) : cmpN m n = -1 := by unfold cmpN; rw [if_pos h]
theorem cmpN_gt {m n : Nat} (h : n < m) : cmpN m n = 1 := by unfold cmpN; rw [if_neg (by omega), if_pos h]
theorem cmpN_eq {m n : Nat} (h : m = n) : cmpN m n = 0 := by unfold cmpN; rw [if_neg (by omega), if_neg (by omega)]
theorem digit_lt {la lb : List Nat} {k : Nat} (hl : la.length = lb.length) (hda : Dig la) (hk : k < la.length) (hE : ∀ j, k + 1 ≤ j → j < la.length → la.getD j 0 = lb.getD j 0)
    (h : la.getD k 0 < lb.getD k 0) : val la < val lb := by
  have e : la.drop (k + 1) = lb.drop (k + 1) := by
    refine list_ext_getD (by simp [hl]) fun j hj => ?_
    rw [List.length_drop] at hj
    rw [List.getD_eq_getElem?_getD, List.getD_eq_getElem?_getD, List.getElem?_drop, List.getElem?_drop, ← List.getD_eq_getElem?_getD, ← List.getD_eq_getElem?_getD]
    exact hE _ (by omega) (by omega)
  have h1 := val_take_drop la k (by omega)
  have h2 := val_take_drop lb k (by omega)
  rw [val_drop_cons la k hk] at h1
  rw [val_drop_cons lb k (by omega), ← e] at h2
  have h3 := val_lt (la.take k) (dig_take hda k)
  rw [List.length_take, Nat.min_eq_left (by omega)] at h3
  generalize la.getD k 0 = x at *
  generalize lb.getD k 0 = y at *
  generalize val (la.drop (k + 1)) = D at *
  have h4 : 4294967296 ^ k * (x + 1) ≤ 4294967296 ^ k * y := Nat.mul_le_mul_left _ h
  rw [Nat.mul_add] at h1 h2 h4
  omega

set_option maxRecDepth 100000 in
set_option maxHeartbeats 1000000 in
/-- nat.Cmp compares the values. -/
theorem natCmp_any (w : World) (u v : Value) (la lb : List Nat) (hu : Rd w u la) (hv : Rd w v lb) :
    Calls Tryz.prog 228 #[u, v] w fun e w' => e = .returned (.int .i64 (cmpN (val la) (val lb))) ∧ Below w.heap.size w w' := by
  go_enter Tryz.func228, Tryz.ntmps228
  go_wp2_with fail
  refine (trim_any _ _ _ hu).mono ?_
  rintro e w1 ⟨u', rfl, hu', rfl⟩
  go_wp2_with fail
  refine (trim_any _ _ _ hv).mono ?_
  rintro e w1 ⟨v', rfl, hv', rfl⟩
  have hlt2 := @nf_len_lt (val la) (val lb)
  have hgt2 := @nf_len_lt (val lb) (val la)
  have hva := val_nf (val la)
  have hvb := val_nf (val lb)
  generalize nf (val la) = xs at *
  generalize nf (val lb) = ys at *
  have hcv : cmpN (val xs) (val ys) = cmpN (val la) (val lb) := by rw [hva, hvb]
  have HCV := Lib.hid hcv
  clear hva hvb hu hv hcv
  obtain ⟨a, capa, rfl, h1, h2, hda, hra⟩ := hu'
  obtain ⟨b, capb, rfl, h3, h4, hdb, hrb⟩ := hv'
  by_cases hl : xs.length < ys.length
  · have HN := Lib.hid (cmpN_lt (hlt2 hl))
    have hne := int_bne_true (x := xs.length) (y := ys.length) (by omega)
    clear hlt2 hgt2
    go_wp2
    go_ret
    exact ⟨by rw [HN.out]; rfl, Below.refl _ _⟩
  by_cases hg : ys.length < xs.length
  · have HN := Lib.hid (cmpN_gt (hgt2 hg))
    have hne := int_bne_true (x := xs.length) (y := ys.length) (by omega)
    clear hlt2 hgt2
    go_wp2
    go_ret
    exact ⟨by rw [HN.out]; rfl, Below.refl _ _⟩
  have hlen : xs.length = ys.length := by omega
  have hne := int_bne_false hlen
  have HL := Lib.hid hlen
  have hle : ys.length ≤ xs.length := by omega
  clear hlt2 hgt2 hlen hl hg
  go_wp2
  go_loopw [5] (fun i wr => ∃ k : Nat, k ≤ xs.length ∧ i = .int .i64 ((k : Int) - 1) ∧ Below w.heap.size w wr ∧ Hid (∀ j, k ≤ j → j < xs.length → xs.getD j 0 = ys.getD j 0)) (fun i _ => (intOf i + 1).toNat)
  case atStart => exact ⟨xs.length, Nat.le_refl _, rfl, Below.refl _ _, fun j h h' => absurd h' (by omega)⟩
  case round =>
    obtain ⟨k, hk, rfl, hB, hE⟩ := hrel
    by_cases hk1 : 1 ≤ k
    · have hka : k - 1 < xs.length := by omega
      have hkb : k - 1 < ys.length := by have := HL.out; omega
      obtain ⟨ba, offa, rfl, cA⟩ := hra.at hB hka
      obtain ⟨bb, offb, rfl, cB⟩ := hrb.at hB hkb
      have hlt2 : xs.getD (k - 1) 0 < ys.getD (k - 1) 0 → Hid (cmpN (val la) (val lb) = -1) := fun h => HCV.out.symm.trans <| cmpN_lt (digit_lt HL.out hda hka (fun j h1 h2 => hE.out j (by omega) h2) h)
      have hgt2 : ys.getD (k - 1) 0 < xs.getD (k - 1) 0 → Hid (cmpN (val la) (val lb) = 1) := fun h => HCV.out.symm.trans <| cmpN_gt (digit_lt HL.out.symm hdb hkb (fun j h1 h2 => (hE.out j (by omega) (by have := HL.out; omega)).symm) h)
      have heq2 : xs.getD (k - 1) 0 = ys.getD (k - 1) 0 → Hid (∀ j, k - 1 ≤ j → j < xs.length → xs.getD j 0 = ys.getD j 0) := fun h j h1 h2 => by
        by_cases hj : j = k - 1
        · rw [hj]; exact h
        · exact hE.out j (by omega) h2
      have hx := dig_get hda (k - 1)
      have hy := dig_get hdb (k - 1)
      generalize xs.getD (k - 1) 0 = x at *
      generalize ys.getD (k - 1) 0 = y at *
      have b0 : (0 : Int) ≤ (k : Int) - 1 := by omega
      have b1 : (k : Int) - 1 < (xs.length : Int) := by omega
      have b2 : (k : Int) - 1 < (ys.length : Int) := by omega
      by_cases hl : x < y
      · have HN := hlt2 hl
        clear hlt2 hgt2 heq2 hra hrb
        go_wp2
        go_quiet (fail)
        go_wp2
        go_ret
        exact ⟨by rw [HN.out]; rfl, blw_drewN hB _⟩
      by_cases hg : y < x
      · have HN := hgt2 hg
        clear hlt2 hgt2 heq2 hra hrb
        go_wp2
        go_quiet (fail)
        go_wp2
        go_quiet (fail)
        go_wp2
        go_ret
        exact ⟨by rw [HN.out]; rfl, blw_drewN (blw_drewN hB _) _⟩
      · have HN := heq2 (by omega)
        clear hlt2 hgt2 heq2 hra hrb
        go_wp2
        go_quiet (fail)
        go_wp2
        go_quiet (fail)
        go_wp2
        go_roundw
        case rel => exact ⟨k - 1, by omega, by go_num, blw_drewN hB _, HN⟩
        case measure => simp [intOf]; omega
    · have HN := Lib.hid (HCV.out.symm.trans (cmpN_eq (m := val xs) (n := val ys) (by rw [list_ext_getD HL.out (fun j hj => hE.out j (by omega) hj)])))
      go_wp2
      go_ret
      exact ⟨by rw [HN.out]; rfl, hB⟩

set_option maxRecDepth 100000 in
set_option maxHeartbeats 1000000 in
/-- num.Cmp compares numbers without zeros at the end. -/
theorem numCmp_any (w : World) (u v : Value) (m n : Nat) (hu : Rd w u (nf m)) (hv : Rd w v (nf n)) :
    Calls Tryz.prog 178 #[u, v] w fun e w' => e = .returned (.int .i64 (cmpN m n)) ∧ Below w.heap.size w w' := by
  have hlt2 := @nf_len_lt m n
  have hgt2 := @nf_len_lt n m
  have hva := val_nf m
  have hvb := val_nf n
  generalize nf m = xs at *
  generalize nf n = ys at *
  have hcv : cmpN (val xs) (val ys) = cmpN m n := by rw [hva, hvb]
  have HCV := Lib.hid hcv
  clear hva hvb hcv
  obtain ⟨a, capa, rfl, h1, h2, hda, hra⟩ := hu
  obtain ⟨b, capb, rfl, h3, h4, hdb, hrb⟩ := hv
  go_enter Tryz.func178, Tryz.ntmps178
  by_cases hl : xs.length < ys.length
  · have HN := Lib.hid (cmpN_lt (hlt2 hl))
    have hne := int_bne_true (x := xs.length) (y := ys.length) (by omega)
    clear hlt2 hgt2
    go_wp2
    go_ret
    exact ⟨by rw [HN.out]; rfl, Below.refl _ _⟩
  by_cases hg : ys.length < xs.length
  · have HN := Lib.hid (cmpN_gt (hgt2 hg))
    have hne := int_bne_true (x := xs.length) (y := ys.length) (by omega)
    clear hlt2 hgt2
    go_wp2
    go_ret
    exact ⟨by rw [HN.out]; rfl, Below.refl _ _⟩
  have hlen : xs.length = ys.length := by omega
  have hne := int_bne_false hlen
  have HL := Lib.hid hlen
  have hle : ys.length ≤ xs.length := by omega
  clear hlt2 hgt2 hlen hl hg
  go_wp2
  go_loopw [5] (fun i wr => ∃ k : Nat, k ≤ xs.length ∧ i = .int .i64 ((k : Int) - 1) ∧ Below w.heap.size w wr ∧ Hid (∀ j, k ≤ j → j < xs.length → xs.getD j 0 = ys.getD j 0)) (fun i _ => (intOf i + 1).toNat)
  case atStart => exact ⟨xs.length, Nat.le_refl _, rfl, Below.refl _ _, fun j h h' => absurd h' (by omega)⟩
  case round =>
    obtain ⟨k, hk, rfl, hB, hE⟩ := hrel
    by_cases hk1 : 1 ≤ k
    · have hka : k - 1 < xs.length := by omega
      have hkb : k - 1 < ys.length := by have := HL.out; omega
      obtain ⟨ba, offa, rfl, cA⟩ := hra.at hB hka
      obtain ⟨bb, offb, rfl, cB⟩ := hrb.at hB hkb
      have hlt2 : xs.getD (k - 1) 0 < ys.getD (k - 1) 0 → Hid (cmpN m n = -1) := fun h => HCV.out.symm.trans <| cmpN_lt (digit_lt HL.out hda hka (fun j h1 h2 => hE.out j (by omega) h2) h)
      have hgt2 : ys.getD (k - 1) 0 < xs.getD (k - 1) 0 → Hid (cmpN m n = 1) := fun h => HCV.out.symm.trans <| cmpN_gt (digit_lt HL.out.symm hdb hkb (fun j h1 h2 => (hE.out j (by omega) (by have := HL.out; omega)).symm) h)
      have heq2 : xs.getD (k - 1) 0 = ys.getD (k - 1) 0 → Hid (∀ j, k - 1 ≤ j → j < xs.length → xs.getD j 0 = ys.getD j 0) := fun h j h1 h2 => by
        by_cases hj : j = k - 1
        · rw [hj]; exact h
        · exact hE.out j (by omega) h2
      have hx := dig_get hda (k - 1)
      have hy := dig_get hdb (k - 1)
      generalize xs.getD (k - 1) 0 = x at *
      generalize ys.getD (k - 1) 0 = y at *
      have b0 : (0 : Int) ≤ (k : Int) - 1 := by omega
      have b1 : (k : Int) - 1 < (xs.length : Int) := by omega
      have b2 : (k : Int) - 1 < (ys.length : Int) := by omega
      by_cases hl : y < x
      · have HN := hgt2 hl
        clear hlt2 hgt2 heq2 hra hrb
        go_wp2
        go_quiet (fail)
        go_wp2
        go_ret
        exact ⟨by rw [HN.out]; rfl, blw_drewN hB _⟩
      by_cases hg : x < y
      · have HN := hlt2 hg
        clear hlt2 hgt2 heq2 hra hrb
        go_wp2
        go_quiet (fail)
        go_wp2
        go_quiet (fail)
        go_wp2
        go_ret
        exact ⟨by rw [HN.out]; rfl, blw_drewN (blw_drewN hB _) _⟩
      · have HN := heq2 (by omega)
        clear hlt2 hgt2 heq2 hra hrb
        go_wp2
        go_quiet (fail)
        go_wp2
        go_quiet (fail)
        go_wp2
        go_roundw
        case rel => exact ⟨k - 1, by omega, by go_num, blw_drewN hB _, HN⟩
        case measure => simp [intOf]; omega
    · have HN := Lib.hid (HCV.out.symm.trans (cmpN_eq (m := val xs) (n := val ys) (by rw [list_ext_getD HL.out (fun j hj => hE.out j (by omega) hj)])))
      go_wp2
      go_ret
      exact ⟨by rw [HN.out]; rfl, hB⟩

end Go.Proofs.YtlameeijogdckaaGreat
