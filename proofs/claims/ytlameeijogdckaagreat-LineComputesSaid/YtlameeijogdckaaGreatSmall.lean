/-
  What an argument of a law reads as, and the contract of the laws' guard 'Small'.
-/
import Derived.Test.YtlameeijogdckaaGreatDivMod
namespace Go.Proofs.YtlameeijogdckaaGreat
open Go.RowKit

/-- What the laws' frame tells of a slice of integers that came in. -/
def IsRow (k : IntKind) (w : World) (a : Option Addr) (len cap : Nat) (zs : List Int) : Prop :=
  (a = none ∧ len = 0 ∧ cap = 0 ∧ zs = []) ∨
  ∃ x, a = some x ∧ len ≤ cap ∧ cap ≤ maxLen ∧ zs.length = cap ∧ (∀ i, i < zs.length → w.cell? (x.add i) = some (.int k (zs.getD i 0))) ∧ ∀ n ∈ zs, (Lit.int k n).wf = true

theorem wf_u32 {n : Int} (h : (Lit.int .u32 n).wf = true) : 0 ≤ n ∧ n < 4294967296 := by
  have h2 : 0 ≤ n ∧ n ≤ 4294967295 := by simpa [Lit.wf, IntKind.min, IntKind.max, IntKind.signed, IntKind.bits] using h
  omega
theorem wf_u64 {n : Int} (h : (Lit.int .u64 n).wf = true) : 0 ≤ n ∧ n < 18446744073709551616 := by
  have h2 : 0 ≤ n ∧ n ≤ 18446744073709551615 := by simpa [Lit.wf, IntKind.min, IntKind.max, IntKind.signed, IntKind.bits] using h
  omega
theorem wf_i64 {n : Int} (h : (Lit.int .i64 n).wf = true) : -9223372036854775808 ≤ n ∧ n < 9223372036854775808 := by
  have h2 : -9223372036854775808 ≤ n ∧ n ≤ 9223372036854775807 := by simpa [Lit.wf, IntKind.min, IntKind.max, IntKind.signed, IntKind.bits] using h
  omega
/-- A slice of digits that came in reads as a list of digits. -/
theorem rd_of_row {w : World} {a : Option Addr} {len cap : Nat} {zs : List Int} (h : IsRow .u32 w a len cap zs) : ∃ l, l.length = len ∧ Rd w (.slice a len cap) l := by
  rcases h with ⟨rfl, rfl, rfl, rfl⟩ | ⟨x, rfl, hl, hm, hz, hcell, hwz⟩
  · exact ⟨[], rfl, Rd.nil w⟩
  · have hlen : ((zs.take len).map Int.toNat).length = len := by
      rw [List.length_map, List.length_take]; omega
    refine ⟨(zs.take len).map Int.toNat, hlen, some x, cap, by rw [hlen], by omega, by unfold maxLen at hm; omega, ?_, fun h0 => ?_⟩
    · intro d hd
      obtain ⟨n, hn, rfl⟩ := List.mem_map.1 hd
      have := wf_u32 (hwz n (List.mem_of_mem_take hn))
      omega
    · rw [hlen] at h0 ⊢
      obtain ⟨b, off, spot⟩ := x
      have hspot : spot = none := by simpa [Addr.add] using World.cell?_spot (hcell 0 (by omega))
      subst hspot
      refine ⟨b, off, rfl, fun i hi => ?_⟩
      have hc := hcell i (by omega)
      rw [addr_plain] at hc
      have hw := wf_u32 (hwz (zs[i]'(by omega)) (List.getElem_mem _))
      have e1 : zs.getD i 0 = zs[i]'(by omega) := by rw [List.getD_eq_getElem?_getD, List.getElem?_eq_getElem (by omega)]; rfl
      have e2 : ((zs.take len).map Int.toNat).getD i 0 = (zs[i]'(by omega)).toNat := by
        rw [List.getD_eq_getElem?_getD, List.getElem?_map, List.getElem?_take, if_pos hi, List.getElem?_eq_getElem (by omega)]; rfl
      rw [hc, e1, e2, Int.toNat_of_nonneg hw.1]

/-- All of the first m lengths are at most n. -/
def smallB (ls : Nat → Nat) (m n : Nat) : Bool := decide (∀ i, i < m → ls i ≤ n)
theorem smallB_true {ls : Nat → Nat} {m n : Nat} (h : ∀ i, i < m → ls i ≤ n) : smallB ls m n = true := decide_eq_true h
theorem smallB_false {ls : Nat → Nat} {m n k : Nat} (hk : k < m) (h : n < ls k) : smallB ls m n = false := decide_eq_false fun hh => by
  have := hh k hk; omega

set_option maxRecDepth 100000 in
set_option maxHeartbeats 1000000 in
theorem small_any (w : World) (b m n cap : Nat) (ls : Nat → Nat) (hm : m ≤ 1000000) (hls : ∀ i, i < m → ls i ≤ 9223372036854775807)
    (hc : ∀ i, i < m → ∃ a c, w.cell? ⟨b, i, none⟩ = some (.slice a (ls i) c)) :
    Calls Tryz.prog 23 #[.int .i64 (n : Int), .slice (some ⟨b, 0, none⟩) m cap] w fun e w' => e = .returned (.bool (smallB ls m n)) ∧ w = w' := by
  go_enter Tryz.func23, Tryz.ntmps23
  go_wp2
  go_loop [9] (fun i => ∃ k : Nat, k ≤ m ∧ i = .int .i64 k ∧ Hid (∀ i, i < k → ls i ≤ n)) (fun i => m - (intOf i).toNat)
  case atStart => exact ⟨0, Nat.zero_le _, rfl, fun i hi => absurd hi (by omega)⟩
  case round =>
    obtain ⟨k, hk, rfl, hE⟩ := hrel
    by_cases hlt : k < m
    · obtain ⟨a, c, hcell⟩ := hc k hlt
      have hl63 := hls k hlt
      have hf := @smallB_false ls m n k hlt
      have hE2 : ls k ≤ n → Hid (∀ i, i < k + 1 → ls i ≤ n) := fun h i hi => by
        rcases Nat.lt_succ_iff_lt_or_eq.1 hi with h1 | rfl
        · exact hE.out i h1
        · exact h
      generalize ls k = L at *
      clear hc hls
      by_cases hgt : n < L
      · have HF := Lib.hid (hf hgt)
        clear hf hE2
        go_wp2
        go_ret
        exact ⟨by rw [HF.out]; rfl, rfl⟩
      · have HE := hE2 (by omega)
        clear hf hE2
        go_wp2
        go_round
        case rel => exact ⟨k + 1, by omega, by go_num, HE⟩
        case measure => simp [intOf]; omega
    · have HT := Lib.hid (smallB_true (ls := ls) (m := m) (n := n) (fun i hi => hE.out i (by omega)))
      clear hc hls
      go_wp2
      go_ret
      exact ⟨by rw [HT.out]; rfl, rfl⟩
end Go.Proofs.YtlameeijogdckaaGreat
