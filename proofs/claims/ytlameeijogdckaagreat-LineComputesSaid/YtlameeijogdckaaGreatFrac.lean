/-
  Package frac: contracts of its functions, in terms of rational numbers.
  Printed by a small program (mkfrac.py).
-/
import Derived.Test.YtlameeijogdckaaGreatRdg
import Derived.Test.YtlameeijogdckaaGreatFrac0
import Derived.IntWalk
namespace Go.Proofs.YtlameeijogdckaaGreat
open Go.RowKit

theorem nbits_ge {m : Nat} (hm : m ≠ 0) : 2 ^ (nbits m - 1) ≤ m := by
  rw [nbits_pos hm]
  have hp := nf_len_pos hm
  have hd := dig_get (dig_nf m) ((nf m).length - 1)
  have hl := nf_last m hm
  have hb := blen_ge (x := (nf m).getD ((nf m).length - 1) 0) (by omega) hl
  have h1 := val_take_drop (nf m) ((nf m).length - 1) (by omega)
  rw [val_drop_cons _ ((nf m).length - 1) (by omega), List.drop_eq_nil_of_le (by omega), val_nil, val_nf, Nat.mul_zero, Nat.add_zero] at h1
  generalize (nf m).getD ((nf m).length - 1) 0 = x at *
  generalize (nf m).length - 1 = k at *
  have h3 : (4294967296 : Nat) ^ k = 2 ^ (32 * k) := by rw [Nat.pow_mul]
  rw [show 32 * k + blen x - 1 = 32 * k + (blen x - 1) by omega, Nat.pow_add, ← h3]
  have h4 : 4294967296 ^ k * 2 ^ (blen x - 1) ≤ 4294967296 ^ k * x := Nat.mul_le_mul_left _ hb.2
  omega
theorem nbits_le_iff {m c : Nat} : nbits m ≤ c ↔ m < 2 ^ c := by
  constructor
  · intro h; exact Nat.lt_of_lt_of_le (nbits_lt m) (Nat.pow_le_pow_right (by omega) h)
  · intro h
    rcases Nat.lt_or_ge c (nbits m) with h' | h'
    · have hm : m ≠ 0 := fun e => by subst e; rw [nbits_zero] at h'; omega
      have := Nat.pow_le_pow_right (show 0 < 2 by omega) (show c ≤ nbits m - 1 by omega)
      have := nbits_ge hm
      omega
    · exact h'
theorem nbits62 {m : Nat} : nbits m ≤ 62 ↔ m < 4611686018427387904 := nbits_le_iff
theorem nbits1 {m : Nat} : nbits m ≤ 1 ↔ m < 2 := nbits_le_iff
theorem nbits0 {m : Nat} : nbits m = 0 ↔ m = 0 := by
  have := @nbits_le_iff m 0
  simp at this; omega
theorem sgn_mk {g : Bool} {n m : Nat} (hm : m ≠ 0) (hn : n ≠ 0) : (mkRat (sgn g n) m).num = sgn g (n / Nat.gcd n m) ∧ (mkRat (sgn g n) m).den = m / Nat.gcd n m ∧ mkRat (sgn g n) m ≠ 0 := by
  have h1 := mk_den (sgn g n) hm
  have h2 := mk_abs (sgn g n) hm
  have h3 := mk_neg (sgn g n) hm
  rw [sgn_abs] at h1 h2
  refine ⟨?_, h1, fun e => ?_⟩
  · have hq : 0 < n / Nat.gcd n m := Nat.div_pos (Nat.gcd_le_left _ (Nat.pos_of_ne_zero hn)) (Nat.gcd_pos_of_pos_left _ (Nat.pos_of_ne_zero hn))
    generalize n / Nat.gcd n m = q at *
    generalize (mkRat (sgn g n) m).num = z at *
    cases g
    · simp only [sgn_false] at *; omega
    · simp only [sgn_true] at *; omega
  · rw [mk_eq0 _ hm] at e
    have := sgn_eq0.1 e
    exact hn this
theorem sgn_bd {g : Bool} {n : Nat} (h : n < 4611686018427387904) : -4611686018427387904 < sgn g n ∧ sgn g n < 4611686018427387904 := by
  cases g <;> simp only [sgn_true, sgn_false] <;> omega
theorem CF.zero {W : World} {k : Nat} (hk : 2 ≤ k) : CF W (.agg #[.int .i64 0, .int .i64 0, .pointer none]) 0 k :=
  CF.small (by simp) (by simp) (by omega) (by omega) (by omega) hk
theorem div_le_len {n g k : Nat} (h : (nf n).length ≤ k) : (nf (n / g)).length ≤ k := len_le (Nat.div_le_self _ _) h

set_option maxRecDepth 100000 in
set_option maxHeartbeats 4000000 in
theorem reduceC {w : World} {g1 : Bool} {a1 : Option Addr} {l1 : Nat} {c1 : Nat} {z : Int} {a2 : Option Addr} {l2 : Nat} {c2 : Nat} {m : Nat} {k1 k2 : Nat} [h1 : CI w (.agg #[.bool g1, .slice a1 l1 c1]) z k1] [h2 : CR w (.slice a2 l2 c2) m k2] (b : k1 ≤ 800000 ∧ k2 ≤ 800000) :
    Calls Tryz.prog 172 #[.agg #[.bool g1, .slice a1 l1 c1], .slice a2 l2 c2] w (CFRet w (mkRat z m) (max k1 k2 + 2)) := by
  obtain ⟨n, hz, rfl⟩ := zi_of h1
  have i1 : CR w (.slice a1 l1 c1) n k1 := ⟨hz⟩
  clear hz
  by_cases hm : m = 0
  · subst hm
    rw [Rat.mkRat_zero]
    have e0 : nbits 0 = 0 := rfl
    go_enter Tryz.func172, Tryz.ntmps172
    go_wp2_with (first
    | (go_at_call 201; (with_reducible refine Calls.cS (bitsC (by omega)) ?_); intros))
    refine ret_bx rfl Tryz.underlying115 rfl (by kernel_rfl) rfl rfl rfl ?_
    have := CF.zero (W := w) (k := max k1 k2 + 2) (by omega)
    exact CFRet.fin (hx := CF.zero (by omega)) rfl (Nat.le_refl _)
  by_cases hn : n = 0
  · subst hn
    rw [show sgn g1 0 = 0 by cases g1 <;> rfl, mk_zero]
    have e0 : (((nbits m : Nat) : Int) == 0) = false := nbits_pos' hm
    have e1 : isgn (sgn g1 0) = 0 := by cases g1 <;> rfl
    clear hm
    go_enter Tryz.func172, Tryz.ntmps172
    go_wp2_with (first
    | (go_at_call 201; (with_reducible refine Calls.cS (bitsC (by omega)) ?_); intros)
    | (go_at_call 203; (with_reducible refine Calls.cE (intSignC (by omega)) ?_); intros))
    refine ret_bx rfl Tryz.underlying115 rfl (by kernel_rfl) rfl rfl rfl ?_
    exact CFRet.fin (hx := CF.zero (by omega)) rfl (Nat.le_refl _)
  have HQ := Lib.hid (sgn_mk (g := g1) hm hn)
  have e0 : (((nbits m : Nat) : Int) == 0) = false := nbits_pos' hm
  have e1 : (isgn (sgn g1 n) == 0) = false := by rw [beq_eq_false_iff_ne]; rcases isgn_cases (sgn g1 n) with ⟨h, e⟩ | ⟨h, e⟩ | ⟨h, e⟩ <;> first | omega | exact absurd (sgn_eq0.1 h) hn
  have hg0 : 0 < Nat.gcd n m := Nat.gcd_pos_of_pos_right _ (Nat.pos_of_ne_zero hm)
  have hmp : 0 < m / Nat.gcd n m := Nat.div_pos (Nat.gcd_le_right _ (Nat.pos_of_ne_zero hm)) hg0
  by_cases hg : Nat.gcd n m < 2
  · have hg1 : Nat.gcd n m = 1 := by omega
    have b0 : ((nbits (Nat.gcd n m) : Nat) : Int) ≤ 1 := by have := nbits1.2 hg; omega
    rw [hg1, Nat.div_one, Nat.div_one] at HQ
    rw [hg1, Nat.div_one] at hmp
    clear hg hg1 hm hn hg0
    by_cases hN : n < 4611686018427387904
    · have b1 : ((nbits (n) : Nat) : Int) ≤ 62 := by have := nbits62.2 hN; omega
      by_cases hD : m < 4611686018427387904
      · have b2 : ((nbits (m) : Nat) : Int) ≤ 62 := by have := nbits62.2 hD; omega
        obtain ⟨b3, b4⟩ := sgn_bd (g := g1) hN
        have e1 := int64V_in (x := sgn g1 (n)) ⟨by omega, by omega⟩
        have e2 := uintV_lt (n := m) (by omega)
        have HF : Hid (∀ W : World, CF W (.agg #[.int .i64 (sgn g1 (n)), .int .i64 (((m : Nat) : Int) - 1), .pointer none]) (mkRat (sgn g1 n) m) (max k1 k2 + 2)) := fun W => CF.small HQ.out.1 (by rw [HQ.out.2.1]; omega) b3 b4 (by omega) (by omega)
        clear hN b3 b4
        go_enter Tryz.func172, Tryz.ntmps172
        go_wp2_with (first
        | (go_at_call 201; (with_reducible refine Calls.cS (bitsC (by omega)) ?_); intros)
        | (go_at_call 203; (with_reducible refine Calls.cE (intSignC (by omega)) ?_); intros)
        | (go_at_call 202; (with_reducible refine Calls.cN (gcdC (by omega)) ?_); intros)
        | (go_at_call 204; (with_reducible refine Calls.cDM (divmodC (by omega)) ?_); intros)
        | (go_at_call 205; (with_reducible refine Calls.cE (int64C) ?_); intros)
        | (go_at_call 206; (with_reducible refine Calls.cS (uintC) ?_); intros)
        | (go_at_call 207; (with_reducible refine Calls.cZ (intNormC (by omega)) ?_); intros)
        | (go_at_call 208; (with_reducible refine Calls.cN (normC (by omega)) ?_); intros))
        refine ret_bx rfl Tryz.underlying115 rfl (by kernel_rfl) rfl rfl rfl ?_
        exact CFRet.fin (hx := HF.out _) rfl (by omega)
      · have b2 : 62 < ((nbits (m) : Nat) : Int) := by have := mt nbits62.1 hD; omega
        clear hN hD
        go_enter Tryz.func172, Tryz.ntmps172
        go_wp2_with (first
        | (go_at_call 201; (with_reducible refine Calls.cS (bitsC (by omega)) ?_); intros)
        | (go_at_call 203; (with_reducible refine Calls.cE (intSignC (by omega)) ?_); intros)
        | (go_at_call 202; (with_reducible refine Calls.cN (gcdC (by omega)) ?_); intros)
        | (go_at_call 204; (with_reducible refine Calls.cDM (divmodC (by omega)) ?_); intros)
        | (go_at_call 205; (with_reducible refine Calls.cE (int64C) ?_); intros)
        | (go_at_call 206; (with_reducible refine Calls.cS (uintC) ?_); intros)
        | (go_at_call 207; (with_reducible refine Calls.cZ (intNormC (by omega)) ?_); intros)
        | (go_at_call 208; (with_reducible refine Calls.cN (normC (by omega)) ?_); intros))
        refine ret_bx rfl Tryz.underlying115 rfl (by kernel_rfl) rfl rfl rfl ?_
        exact CFRet.fin (hx := CF.big (k := max k1 k2 + 2) HQ.out.1.symm HQ.out.2.1.symm HQ.out.2.2 (by omega) (by omega)) rfl (by omega)
    · have b1 : 62 < ((nbits (n) : Nat) : Int) := by have := mt nbits62.1 hN; omega
      clear hN
      go_enter Tryz.func172, Tryz.ntmps172
      go_wp2_with (first
      | (go_at_call 201; (with_reducible refine Calls.cS (bitsC (by omega)) ?_); intros)
      | (go_at_call 203; (with_reducible refine Calls.cE (intSignC (by omega)) ?_); intros)
      | (go_at_call 202; (with_reducible refine Calls.cN (gcdC (by omega)) ?_); intros)
      | (go_at_call 204; (with_reducible refine Calls.cDM (divmodC (by omega)) ?_); intros)
      | (go_at_call 205; (with_reducible refine Calls.cE (int64C) ?_); intros)
      | (go_at_call 206; (with_reducible refine Calls.cS (uintC) ?_); intros)
      | (go_at_call 207; (with_reducible refine Calls.cZ (intNormC (by omega)) ?_); intros)
      | (go_at_call 208; (with_reducible refine Calls.cN (normC (by omega)) ?_); intros))
      refine ret_bx rfl Tryz.underlying115 rfl (by kernel_rfl) rfl rfl rfl ?_
      exact CFRet.fin (hx := CF.big (k := max k1 k2 + 2) HQ.out.1.symm HQ.out.2.1.symm HQ.out.2.2 (by omega) (by omega)) rfl (by omega)
  · have b0 : 1 < ((nbits (Nat.gcd n m) : Nat) : Int) := by have := mt nbits1.1 hg; omega
    clear hg hm hn
    by_cases hN : n / Nat.gcd n m < 4611686018427387904
    · have b1 : ((nbits (n / Nat.gcd n m) : Nat) : Int) ≤ 62 := by have := nbits62.2 hN; omega
      by_cases hD : m / Nat.gcd n m < 4611686018427387904
      · have b2 : ((nbits (m / Nat.gcd n m) : Nat) : Int) ≤ 62 := by have := nbits62.2 hD; omega
        obtain ⟨b3, b4⟩ := sgn_bd (g := g1) hN
        have e1 := int64V_in (x := sgn g1 (n / Nat.gcd n m)) ⟨by omega, by omega⟩
        have e2 := uintV_lt (n := m / Nat.gcd n m) (by omega)
        have HF : Hid (∀ W : World, CF W (.agg #[.int .i64 (sgn g1 (n / Nat.gcd n m)), .int .i64 (((m / Nat.gcd n m : Nat) : Int) - 1), .pointer none]) (mkRat (sgn g1 n) m) (max k1 k2 + 2)) := fun W => CF.small HQ.out.1 (by rw [HQ.out.2.1]; omega) b3 b4 (by omega) (by omega)
        clear hN b3 b4
        go_enter Tryz.func172, Tryz.ntmps172
        go_wp2_with (first
        | (go_at_call 201; (with_reducible refine Calls.cS (bitsC (by omega)) ?_); intros)
        | (go_at_call 203; (with_reducible refine Calls.cE (intSignC (by omega)) ?_); intros)
        | (go_at_call 202; (with_reducible refine Calls.cN (gcdC (by omega)) ?_); intros)
        | (go_at_call 204; (with_reducible refine Calls.cDM (divmodC (by omega)) ?_); intros)
        | (go_at_call 205; (with_reducible refine Calls.cE (int64C) ?_); intros)
        | (go_at_call 206; (with_reducible refine Calls.cS (uintC) ?_); intros)
        | (go_at_call 207; (with_reducible refine Calls.cZ (intNormC (by omega)) ?_); intros)
        | (go_at_call 208; (with_reducible refine Calls.cN (normC (by omega)) ?_); intros))
        refine ret_bx rfl Tryz.underlying115 rfl (by kernel_rfl) rfl rfl rfl ?_
        exact CFRet.fin (hx := HF.out _) rfl (by omega)
      · have b2 : 62 < ((nbits (m / Nat.gcd n m) : Nat) : Int) := by have := mt nbits62.1 hD; omega
        clear hN hD
        go_enter Tryz.func172, Tryz.ntmps172
        go_wp2_with (first
        | (go_at_call 201; (with_reducible refine Calls.cS (bitsC (by omega)) ?_); intros)
        | (go_at_call 203; (with_reducible refine Calls.cE (intSignC (by omega)) ?_); intros)
        | (go_at_call 202; (with_reducible refine Calls.cN (gcdC (by omega)) ?_); intros)
        | (go_at_call 204; (with_reducible refine Calls.cDM (divmodC (by omega)) ?_); intros)
        | (go_at_call 205; (with_reducible refine Calls.cE (int64C) ?_); intros)
        | (go_at_call 206; (with_reducible refine Calls.cS (uintC) ?_); intros)
        | (go_at_call 207; (with_reducible refine Calls.cZ (intNormC (by omega)) ?_); intros)
        | (go_at_call 208; (with_reducible refine Calls.cN (normC (by omega)) ?_); intros))
        refine ret_bx rfl Tryz.underlying115 rfl (by kernel_rfl) rfl rfl rfl ?_
        exact CFRet.fin (hx := CF.big (k := max k1 k2 + 2) HQ.out.1.symm HQ.out.2.1.symm HQ.out.2.2 (by omega) (by omega)) rfl (by omega)
    · have b1 : 62 < ((nbits (n / Nat.gcd n m) : Nat) : Int) := by have := mt nbits62.1 hN; omega
      clear hN
      go_enter Tryz.func172, Tryz.ntmps172
      go_wp2_with (first
      | (go_at_call 201; (with_reducible refine Calls.cS (bitsC (by omega)) ?_); intros)
      | (go_at_call 203; (with_reducible refine Calls.cE (intSignC (by omega)) ?_); intros)
      | (go_at_call 202; (with_reducible refine Calls.cN (gcdC (by omega)) ?_); intros)
      | (go_at_call 204; (with_reducible refine Calls.cDM (divmodC (by omega)) ?_); intros)
      | (go_at_call 205; (with_reducible refine Calls.cE (int64C) ?_); intros)
      | (go_at_call 206; (with_reducible refine Calls.cS (uintC) ?_); intros)
      | (go_at_call 207; (with_reducible refine Calls.cZ (intNormC (by omega)) ?_); intros)
      | (go_at_call 208; (with_reducible refine Calls.cN (normC (by omega)) ?_); intros))
      refine ret_bx rfl Tryz.underlying115 rfl (by kernel_rfl) rfl rfl rfl ?_
      exact CFRet.fin (hx := CF.big (k := max k1 k2 + 2) HQ.out.1.symm HQ.out.2.1.symm HQ.out.2.2 (by omega) (by omega)) rfl (by omega)

set_option maxRecDepth 100000 in
set_option maxHeartbeats 4000000 in
theorem rNumC {w : World} {n1 : Int} {d1 : Int} {p1 : Option Addr} {x : Rat} {k1 : Nat} [h1 : CF w (.agg #[.int .i64 n1, .int .i64 d1, .pointer p1]) x k1] (b : k1 ≤ 900000) :
    Calls Tryz.prog 192 #[.agg #[.int .i64 n1, .int .i64 d1, .pointer p1]] w (CZRet w x.num k1) := by
  rcases CF.cases h1 with ⟨rfl, en1, ed1, bn1, bm1, bd1, be1, bk1⟩ | ⟨rfl, rfl, hq1, q1, G1, A1, L1, C1, AA1, LL1, CC1, rfl, hB1, hZ1, hN1⟩
  · have En := Lib.hid en1
    have Ed := Lib.hid ed1
    clear en1 ed1
    go_enter Tryz.func192, Tryz.ntmps192
    go_wp2_with (first
    | (go_at_call 173; (with_reducible refine Calls.cZ (fromIntC (by omega)) ?_); intros))
    refine ret_bx rfl Tryz.underlying25 rfl (by kernel_rfl) rfl rfl rfl ?_
    exact CZRet.fin En.out.symm (by omega)
  · go_enter Tryz.func192, Tryz.ntmps192
    go_wp2_with (first
    | (go_at_call 207; (with_reducible refine Calls.cZ (intNormC (by omega)) ?_); intros))
    refine ret_bx rfl Tryz.underlying25 rfl (by kernel_rfl) rfl rfl rfl ?_
    exact CZRet.fin rfl (by omega)

set_option maxRecDepth 100000 in
set_option maxHeartbeats 4000000 in
theorem rDenC {w : World} {n1 : Int} {d1 : Int} {p1 : Option Addr} {x : Rat} {k1 : Nat} [h1 : CF w (.agg #[.int .i64 n1, .int .i64 d1, .pointer p1]) x k1] (b : k1 ≤ 900000) :
    Calls Tryz.prog 193 #[.agg #[.int .i64 n1, .int .i64 d1, .pointer p1]] w (CNRet w x.den k1) := by
  rcases CF.cases h1 with ⟨rfl, en1, ed1, bn1, bm1, bd1, be1, bk1⟩ | ⟨rfl, rfl, hq1, q1, G1, A1, L1, C1, AA1, LL1, CC1, rfl, hB1, hZ1, hN1⟩
  · have En := Lib.hid en1
    have Ed := Lib.hid ed1
    clear en1 ed1
    go_enter Tryz.func193, Tryz.ntmps193
    go_wp2_with (first
    | (go_at_call 209; (with_reducible refine Calls.cN (fromUintC (by omega)) ?_); intros))
    go_ret
    exact CNRet.fin (by have := Ed.out; omega) (by omega)
  · go_enter Tryz.func193, Tryz.ntmps193
    go_wp2_with (first
    | (go_at_call 208; (with_reducible refine Calls.cN (normC (by omega)) ?_); intros))
    go_ret
    exact CNRet.fin rfl (by omega)

set_option maxRecDepth 100000 in
set_option maxHeartbeats 4000000 in
theorem rApiC {w : World} {n1 : Int} {d1 : Int} {p1 : Option Addr} {x : Rat} {k1 : Nat} [h1 : CF w (.agg #[.int .i64 n1, .int .i64 d1, .pointer p1]) x k1] (b : k1 ≤ 900000) :
    Calls Tryz.prog 122 #[.agg #[.int .i64 n1, .int .i64 d1, .pointer p1]] w (CARet w x k1) := by
  go_enter Tryz.func122, Tryz.ntmps122
  go_wp2_with fail
  refine region_cls (by kernel_rfl) [w.heap.size + 1] (fun hHeld => ?_)
  refine wpAnyH_take (i := 0) (v := ?z1) (by simp; rfl) (by kernel_rfl) (by kernel_rfl) (by kernel_rfl) (by exact fun _ _ _ h => h) (Or.inl ⟨by rfl, ?yz1⟩) hHeld ?_
  case yz1 => (intro wx hSw; have hSx := Ex1.mk hSw; go_simp; (try with_reducible rfl))
  try simp only [Act.put, List.setIfInBounds_toArray, List.set_cons_zero, List.set_cons_succ]
  refine wpAnyH_take (i := 2) (v := ?z2) (by simp; rfl) (by kernel_rfl) (by kernel_rfl) (by kernel_rfl) (by exact fun _ _ _ h => h) (Or.inl ⟨by rfl, ?yz2⟩) hHeld ?_
  case yz2 => (intro wx hSw; have hSx := Ex1.mk hSw; go_simp; (try with_reducible rfl))
  try simp only [Act.put, List.setIfInBounds_toArray, List.set_cons_zero, List.set_cons_succ]
  refine wpAnyH_ready (rs := [1]) (by kernel_rfl) (by simp) ?_
  refine AllReadyH.cons (by simp; rfl) (fun K hK => ?_) AllReadyH.nil
  go_simp
  (go_at_call 192; (with_reducible refine Calls.cZ (rNumC (by omega)) ?_); intros)
  refine hK.out _ _ inferInstance ?_
  clear hHeld hK K
  intro hHeld
  try simp only [Act.put, List.setIfInBounds_toArray, List.set_cons_zero, List.set_cons_succ]
  refine wpAnyH_ready (rs := [3]) (by kernel_rfl) (by simp) ?_
  refine AllReadyH.cons (by simp; rfl) (fun K hK => ?_) AllReadyH.nil
  go_simp
  (go_at_call 193; (with_reducible refine Calls.cN (rDenC (by omega)) ?_); intros)
  refine hK.out _ _ inferInstance ?_
  clear hHeld hK K
  intro hHeld
  try simp only [Act.put, List.setIfInBounds_toArray, List.set_cons_zero, List.set_cons_succ]
  refine wpAnyH_take (i := 4) (v := ?z3) (by simp; rfl) (by kernel_rfl) (by kernel_rfl) (by kernel_rfl) (by exact fun _ _ _ h => h) (Or.inl ⟨by rfl, ?yz3⟩) hHeld ?_
  case yz3 => (intro wx hSw; have hSx := Ex1.mk hSw; go_simp; (try with_reducible rfl))
  try simp only [Act.put, List.setIfInBounds_toArray, List.set_cons_zero, List.set_cons_succ]
  refine wpAnyH_ready (rs := [5]) (by kernel_rfl) (by simp) ?_
  refine AllReadyH.cons (by simp; rfl) (fun K hK => ?_) AllReadyH.nil
  go_simp
  refine hK.out _ _ inferInstance ?_
  clear hHeld hK K
  intro hHeld
  try simp only [Act.put, List.setIfInBounds_toArray, List.set_cons_zero, List.set_cons_succ]
  refine wpAnyH_done (by kernel_rfl) ?_ _
  clear hHeld
  go_wp2
  refine ret_bx rfl Tryz.underlying27 rfl (by kernel_rfl) rfl rfl rfl ?_
  exact CARet.fin (hx := CA.mk' rfl rfl (Nat.le_refl _) (Nat.le_refl _)) rfl (Nat.le_refl _)

set_option maxRecDepth 100000 in
set_option maxHeartbeats 4000000 in
theorem rNegC {w : World} {n1 : Int} {d1 : Int} {p1 : Option Addr} {x : Rat} {k1 : Nat} [h1 : CF w (.agg #[.int .i64 n1, .int .i64 d1, .pointer p1]) x k1] (b : k1 ≤ 900000) :
    Calls Tryz.prog 185 #[.agg #[.int .i64 n1, .int .i64 d1, .pointer p1]] w (CFRet w (-x) k1) := by
  rcases CF.cases h1 with ⟨rfl, en1, ed1, bn1, bm1, bd1, be1, bk1⟩ | ⟨rfl, rfl, hq1, q1, G1, A1, L1, C1, AA1, LL1, CC1, rfl, hB1, hZ1, hN1⟩
  · have En := Lib.hid en1
    have Ed := Lib.hid ed1
    clear en1 ed1
    have HF : Hid (∀ W : World, CF W (.agg #[.int .i64 (-n1), .int .i64 d1, .pointer none]) (-x) k1) := fun W => CF.small (by rw [Rat.neg_num, En.out]) (by rw [Rat.neg_den, Ed.out]) (by omega) (by omega) (by omega) (by omega)
    go_enter Tryz.func185, Tryz.ntmps185
    go_wp2
    refine ret_bx rfl Tryz.underlying115 rfl (by kernel_rfl) rfl rfl rfl ?_
    exact CFRet.fin (hx := HF.out _) rfl (by omega)
  · have hq' : -x ≠ 0 := by
      intro e
      rw [← Rat.num_eq_zero, Rat.neg_num] at e
      exact hq1 (Rat.num_eq_zero.1 (by omega))
    go_enter Tryz.func185, Tryz.ntmps185
    go_wp2_with fail
    refine region_cls (by kernel_rfl) [w.heap.size + 1] (fun hHeld => ?_)
    refine wpAnyH_take (i := 0) (v := ?z4) (by simp; rfl) (by kernel_rfl) (by kernel_rfl) (by kernel_rfl) (by exact fun _ _ _ h => h) (Or.inl ⟨by rfl, ?yz4⟩) hHeld ?_
    case yz4 => (intro wx hSw; have hSx := Ex1.mk hSw; go_simp; (try with_reducible rfl))
    try simp only [Act.put, List.setIfInBounds_toArray, List.set_cons_zero, List.set_cons_succ]
    refine wpAnyH_take (i := 1) (v := ?z5) (by simp; rfl) (by kernel_rfl) (by kernel_rfl) (by kernel_rfl) (by exact fun _ _ _ h => h) (Or.inl ⟨by rfl, ?yz5⟩) hHeld ?_
    case yz5 => (intro wx hSw; have hSx := Ex1.mk hSw; go_simp; (try with_reducible rfl))
    try simp only [Act.put, List.setIfInBounds_toArray, List.set_cons_zero, List.set_cons_succ]
    refine wpAnyH_take (i := 2) (v := ?z6) (by simp; rfl) (by kernel_rfl) (by kernel_rfl) (by kernel_rfl) (by exact fun _ _ _ h => h) (Or.inl ⟨by rfl, ?yz6⟩) hHeld ?_
    case yz6 => (intro wx hSw; have hSx := Ex1.mk hSw; go_simp; (try with_reducible rfl))
    try simp only [Act.put, List.setIfInBounds_toArray, List.set_cons_zero, List.set_cons_succ]
    refine wpAnyH_take (i := 3) (v := ?z7) (by simp; rfl) (by kernel_rfl) (by kernel_rfl) (by kernel_rfl) (by exact fun _ _ _ h => h) (Or.inl ⟨by rfl, ?yz7⟩) hHeld ?_
    case yz7 => (intro wx hSw; have hSx := Ex1.mk hSw; go_simp; (try with_reducible rfl))
    try simp only [Act.put, List.setIfInBounds_toArray, List.set_cons_zero, List.set_cons_succ]
    refine wpAnyH_take (i := 4) (v := ?z8) (by simp; rfl) (by kernel_rfl) (by kernel_rfl) (by kernel_rfl) (by exact fun _ _ _ h => h) (Or.inl ⟨by rfl, ?yz8⟩) hHeld ?_
    case yz8 => (intro wx hSw; have hSx := Ex1.mk hSw; go_simp; (try with_reducible rfl))
    try simp only [Act.put, List.setIfInBounds_toArray, List.set_cons_zero, List.set_cons_succ]
    refine wpAnyH_take (i := 6) (v := ?z9) (by simp; rfl) (by kernel_rfl) (by kernel_rfl) (by kernel_rfl) (by exact fun _ _ _ h => h) (Or.inl ⟨by rfl, ?yz9⟩) hHeld ?_
    case yz9 => (intro wx hSw; have hSx := Ex1.mk hSw; go_simp; (try with_reducible rfl))
    try simp only [Act.put, List.setIfInBounds_toArray, List.set_cons_zero, List.set_cons_succ]
    refine wpAnyH_take (i := 7) (v := ?z10) (by simp; rfl) (by kernel_rfl) (by kernel_rfl) (by kernel_rfl) (by exact fun _ _ _ h => h) (Or.inl ⟨by rfl, ?yz10⟩) hHeld ?_
    case yz10 => (intro wx hSw; have hSx := Ex1.mk hSw; go_simp; (try with_reducible rfl))
    try simp only [Act.put, List.setIfInBounds_toArray, List.set_cons_zero, List.set_cons_succ]
    refine wpAnyH_take (i := 8) (v := ?z11) (by simp; rfl) (by kernel_rfl) (by kernel_rfl) (by kernel_rfl) (by exact fun _ _ _ h => h) (Or.inl ⟨by rfl, ?yz11⟩) hHeld ?_
    case yz11 => (intro wx hSw; have hSx := Ex1.mk hSw; go_simp; (try with_reducible rfl))
    try simp only [Act.put, List.setIfInBounds_toArray, List.set_cons_zero, List.set_cons_succ]
    refine wpAnyH_take (i := 9) (v := ?z12) (by simp; rfl) (by kernel_rfl) (by kernel_rfl) (by kernel_rfl) (by exact fun _ _ _ h => h) (Or.inl ⟨by rfl, ?yz12⟩) hHeld ?_
    case yz12 => (intro wx hSw; have hSx := Ex1.mk hSw; go_simp; (try with_reducible rfl))
    try simp only [Act.put, List.setIfInBounds_toArray, List.set_cons_zero, List.set_cons_succ]
    refine wpAnyH_take (i := 10) (v := ?z13) (by simp; rfl) (by kernel_rfl) (by kernel_rfl) (by kernel_rfl) (by exact fun _ _ _ h => h) (Or.inl ⟨by rfl, ?yz13⟩) hHeld ?_
    case yz13 => (intro wx hSw; have hSx := Ex1.mk hSw; go_simp; (try with_reducible rfl))
    try simp only [Act.put, List.setIfInBounds_toArray, List.set_cons_zero, List.set_cons_succ]
    refine wpAnyH_ready (rs := [5]) (by kernel_rfl) (by simp) ?_
    refine AllReadyH.cons (by simp; rfl) (fun K hK => ?_) AllReadyH.nil
    go_simp
    (go_at_call 218; (with_reducible refine Calls.cZ (intNegC (by omega)) ?_); intros)
    refine hK.out _ _ inferInstance ?_
    clear hHeld hK K
    intro hHeld
    try simp only [Act.put, List.setIfInBounds_toArray, List.set_cons_zero, List.set_cons_succ]
    refine wpAnyH_take (i := 11) (v := ?z14) (by simp; rfl) (by kernel_rfl) (by kernel_rfl) (by kernel_rfl) (by exact fun _ _ _ h => h) (Or.inl ⟨by rfl, ?yz14⟩) hHeld ?_
    case yz14 => (intro wx hSw; have hSx := Ex1.mk hSw; go_simp; (try with_reducible rfl))
    try simp only [Act.put, List.setIfInBounds_toArray, List.set_cons_zero, List.set_cons_succ]
    refine wpAnyH_ready (rs := [12]) (by kernel_rfl) (by simp) ?_
    refine AllReadyH.cons (by simp; rfl) (fun K hK => ?_) AllReadyH.nil
    go_simp
    refine hK.out _ _ inferInstance ?_
    clear hHeld hK K
    intro hHeld
    try simp only [Act.put, List.setIfInBounds_toArray, List.set_cons_zero, List.set_cons_succ]
    refine wpAnyH_take (i := 13) (v := ?z15) (by simp; rfl) (by kernel_rfl) (by kernel_rfl) (by kernel_rfl) (by exact fun _ _ _ h => h) (Or.inl ⟨by rfl, ?yz15⟩) hHeld ?_
    case yz15 => (intro wx hSw; have hSx := Ex1.mk hSw; go_simp; (try with_reducible rfl))
    try simp only [Act.put, List.setIfInBounds_toArray, List.set_cons_zero, List.set_cons_succ]
    refine wpAnyH_ready (rs := [14]) (by kernel_rfl) (by simp) ?_
    refine AllReadyH.cons (by simp; rfl) (fun K hK => ?_) AllReadyH.nil
    go_simp
    refine hK.out _ _ inferInstance ?_
    clear hHeld hK K
    intro hHeld
    try simp only [Act.put, List.setIfInBounds_toArray, List.set_cons_zero, List.set_cons_succ]
    refine wpAnyH_done (by kernel_rfl) ?_ _
    clear hHeld
    go_wp2
    refine ret_bx rfl Tryz.underlying115 rfl (by kernel_rfl) rfl rfl rfl ?_
    exact CFRet.fin (hx := CF.big (k := k1) (Rat.neg_num x).symm (Rat.neg_den x).symm hq' (by omega) (by omega)) rfl (by omega)

set_option maxRecDepth 100000 in
set_option maxHeartbeats 4000000 in
theorem rSignC {w : World} {n1 : Int} {d1 : Int} {p1 : Option Addr} {x : Rat} {k1 : Nat} [h1 : CF w (.agg #[.int .i64 n1, .int .i64 d1, .pointer p1]) x k1] (b : k1 ≤ 900000) :
    Calls Tryz.prog 189 #[.agg #[.int .i64 n1, .int .i64 d1, .pointer p1]] w (fun e w' => e = .returned (.int .i64 (isgn x.num)) ∧ Below w.heap.size w w') := by
  rcases CF.cases h1 with ⟨rfl, en1, ed1, bn1, bm1, bd1, be1, bk1⟩ | ⟨rfl, rfl, hq1, q1, G1, A1, L1, C1, AA1, LL1, CC1, rfl, hB1, hZ1, hN1⟩
  · rw [en1]
    clear en1 ed1 h1
    rcases isgn_cases n1 with ⟨h, e⟩ | ⟨h, e⟩ | ⟨h, e⟩ <;> rw [e] <;> clear e
    · go_enter Tryz.func189, Tryz.ntmps189
      go_wp2
      go_ret
      exact E.fin rfl
    · subst h
      go_enter Tryz.func189, Tryz.ntmps189
      go_wp2
      go_ret
      exact E.fin rfl
    · go_enter Tryz.func189, Tryz.ntmps189
      go_wp2
      go_ret
      exact E.fin rfl
  · go_enter Tryz.func189, Tryz.ntmps189
    go_wp2_with (first
    | (go_at_call 203; (with_reducible refine Calls.cE (intSignC (by omega)) ?_); intros))
    go_ret
    exact E.fin rfl

set_option maxRecDepth 100000 in
set_option maxHeartbeats 4000000 in
theorem ofC {w : World} {g1 : Bool} {a1 : Option Addr} {l1 : Nat} {c1 : Nat} {aa1 : Option Addr} {ll1 : Nat} {cc1 : Nat} {x : Rat} {k1 : Nat} [h1 : CW w (.agg #[.bool g1, .slice a1 l1 c1, .slice aa1 ll1 cc1]) x k1] (b : k1 ≤ 700000) :
    Calls Tryz.prog 113 #[.agg #[.bool g1, .slice a1 l1 c1, .slice aa1 ll1 cc1]] w (CFRet w x (k1 + 2)) := by
  obtain ⟨z, m, rfl, i1, i2⟩ := CW.parts h1
  go_enter Tryz.func113, Tryz.ntmps113
  go_wp2_with (first
    | (go_at_call 172; (with_reducible refine Calls.cF (reduceC (by omega)) ?_); intros))
  refine ret_bx rfl Tryz.underlying115 rfl (by kernel_rfl) rfl rfl rfl ?_
  exact CFRet.fin rfl (by omega)

set_option maxRecDepth 100000 in
set_option maxHeartbeats 4000000 in
theorem fracIntC {w : World} {n : Int} (b : -9223372036854775808 ≤ n ∧ n < 9223372036854775808) :
    Calls Tryz.prog 94 #[.int .i64 n] w (CFRet w (n : Rat) 4) := by
  obtain ⟨b1, b2⟩ := b
  by_cases h1 : n ≤ -4611686018427387904
  · have HE := Lib.hid (mk_one n)
    go_enter Tryz.func94, Tryz.ntmps94
    go_wp2_with (first
    | (go_at_call 173; (with_reducible refine Calls.cZ (fromIntC (by omega)) ?_); intros)
    | (go_at_call 172; (with_reducible refine Calls.cF (reduceC (by omega)) ?_); intros))
    refine ret_bx rfl Tryz.underlying115 rfl (by kernel_rfl) rfl rfl rfl ?_
    exact CFRet.fin HE.out (by omega)
  · by_cases h2 : 4611686018427387904 ≤ n
    · have HE := Lib.hid (mk_one n)
      have h1' : -4611686018427387904 < n := by omega
      clear h1
      go_enter Tryz.func94, Tryz.ntmps94
      go_wp2_with (first
    | (go_at_call 173; (with_reducible refine Calls.cZ (fromIntC (by omega)) ?_); intros)
    | (go_at_call 172; (with_reducible refine Calls.cF (reduceC (by omega)) ?_); intros))
      refine ret_bx rfl Tryz.underlying115 rfl (by kernel_rfl) rfl rfl rfl ?_
      exact CFRet.fin HE.out (by omega)
    · have HF : Hid (∀ W : World, CF W (.agg #[.int .i64 n, .int .i64 0, .pointer none]) (n : Rat) 4) := fun W => CF.small (by simp) (by simp) (by omega) (by omega) (by omega) (by omega)
      have h1' : -4611686018427387904 < n := by omega
      have h2' : n < 4611686018427387904 := by omega
      clear h1 h2
      go_enter Tryz.func94, Tryz.ntmps94
      go_wp2
      refine ret_bx rfl Tryz.underlying115 rfl (by kernel_rfl) rfl rfl rfl ?_
      exact CFRet.fin (hx := HF.out _) rfl (by omega)

set_option maxRecDepth 100000 in
set_option maxHeartbeats 4000000 in
theorem lowestC {w : World} {n d : Int} (b : -4611686018427387904 < n ∧ n < 4611686018427387904 ∧ 0 < d ∧ d < 4611686018427387904) :
    Calls Tryz.prog 221 #[.int .i64 n, .int .i64 d] w (CFRet w (mkRat n d.toNat) 2) := by
  obtain ⟨b1, b2, b3, b4⟩ := b
  obtain ⟨D, rfl⟩ : ∃ D : Nat, d = D := ⟨d.toNat, by omega⟩
  have hD : D ≠ 0 := by omega
  have hg0 : 0 < Nat.gcd n.natAbs D := Nat.gcd_pos_of_pos_right _ (by omega)
  have hgD : Nat.gcd n.natAbs D ≤ D := Nat.gcd_le_right _ (by omega)
  have e1 := mk_num n hD
  have e2 := mk_den n hD
  have d1 := Nat.gcd_dvd_left n.natAbs D
  have d2 := Nat.gcd_dvd_right n.natAbs D
  rw [show ((D : Int)).toNat = D by simp]
  generalize hG : Nat.gcd n.natAbs D = G at *
  have HG := Lib.hid hG
  have hn1 : n.natAbs < 18446744073709551616 := by omega
  have hD2 : D < 4611686018427387904 := by omega
  by_cases hg : G < 2
  · have hG1 : G = 1 := by omega
    subst hG1
    have HF : Hid (∀ W : World, CF W (.agg #[.int .i64 n, .int .i64 ((D : Int) - 1), .pointer none]) (mkRat n D) 2) := fun W => CF.small (by rw [e1]; simp) (by rw [e2]; simp) b1 b2 (by omega) (by omega)
    clear hG e1 e2 d1 d2 hg hg0 hgD b4
    go_enter Tryz.func221, Tryz.ntmps221
    go_wp2_with (first
    | (go_at_call 211; (with_reducible refine Calls.cS (absX (by omega) (by omega)) ?_); intros)
    | (go_at_call 210; (with_reducible refine Calls.cE (gcd64C (by omega) (by omega) HG) ?_); intros))
    refine ret_bx rfl Tryz.underlying115 rfl (by kernel_rfl) rfl rfl rfl ?_
    exact CFRet.fin (hx := HF.out _) rfl (by omega)
  · have t1 : n.tdiv (G : Int) = n / (G : Int) := Int.tdiv_eq_ediv_of_dvd (Int.ofNat_dvd_left.2 d1)
    have t2 := int_div_abs n G d1
    have t3 : n.natAbs / G ≤ n.natAbs := Nat.div_le_self _ _
    have t4 : (D : Int) / (G : Int) = ((D / G : Nat) : Int) := by simp
    have t5 : D / G ≤ D := Nat.div_le_self _ _
    have t6 : 0 < D / G := Nat.div_pos hgD hg0
    have HF : Hid (∀ W : World, CF W (.agg #[.int .i64 (n.tdiv (G : Int)), .int .i64 ((D : Int) / (G : Int) - 1), .pointer none]) (mkRat n D) 2) := fun W => CF.small (by rw [e1, t1]) (by rw [e2, t4]; omega) (by rw [t1]; omega) (by rw [t1]; omega) (by rw [t4]; omega) (by omega)
    have HW : Hid (wrap64 (wrap64 ((D : Int) / (G : Int)) - 1) = (D : Int) / (G : Int) - 1) := by
      show _ = _
      rw [t4, IntWalk.wrap64_in ((D / G : Nat) : Int) (by omega), IntWalk.wrap64_in (((D / G : Nat) : Int) - 1) (by omega)]
    clear t1 t2 t3 t4 t5 t6
    have g1 : 2 ≤ G := by omega
    have g2 : ((G : Int) == 0) = false := by rw [beq_eq_false_iff_ne]; omega
    clear hG e1 e2 d1 d2 hg hg0 b4
    go_enter Tryz.func221, Tryz.ntmps221
    go_wp2_with (first
    | (go_at_call 211; (with_reducible refine Calls.cS (absX (by omega) (by omega)) ?_); intros)
    | (go_at_call 210; (with_reducible refine Calls.cE (gcd64C (by omega) (by omega) HG) ?_); intros))
    go_quiet (fail)
    go_wp2
    refine ret_bx rfl Tryz.underlying115 rfl (by kernel_rfl) rfl rfl rfl ?_
    rw [HW.out]
    exact CFRet.fin (hx := HF.out _) rfl (by omega)

end Go.Proofs.YtlameeijogdckaaGreat
