/-
  Texts of this claim, joined: Nrm, Rg2, Rg3, Rg4.
-/
import Derived.Test.YtdlnoeegboapkaaGreatDoorRO
import Derived.Test.YtdlnoeegboapkaaGreatDoorRF
import Derived.Test.YtdlnoeegboapkaaGreatDoorRP
import Derived.RangeFuncNested
import Derived.RangeFuncBound
import Derived.RangeFuncCalls
import Derived.RangeFuncLeaves
import Derived.RangeFuncFrom
import Derived.RangeFuncWrites
import Derived.Shelf.Abstract
import Derived.Shelf.RegionOpen
import Derived.OwnWalkIn
import Derived.TacticsInMore
import Derived.LoopNIn
import Derived.LoopIn
/- Normal forms of numbers that came in as arguments: the digits are any digits. Package frac and the reference decide alike. printed by a small program (mknrm.py). -/
namespace Go.Proofs.YtdlnoeegboapkaaGreatDoor
open Go.RowKit
set_option maxRecDepth 100000
set_option maxHeartbeats 40000000
set_option synthInstance.maxSize 100000
set_option synthInstance.maxHeartbeats 1000000

/-- The slice v reads as the digits l. -/
class RL (W : World) (v : Value) (l : outParam (List Nat)) : Prop where out : Rd W v l
instance RL.al {W : World} {v : Value} {l : (List Nat)} {o : Obj} [h : RL W v l] : RL (W.alloc o) v l := ⟨h.out.keep (blw_one _ _)⟩
instance RL.dr {W : World} {v : Value} {l : (List Nat)} [h : RL W v l] : RL W.drew v l := ⟨h.out.keep (blw_drew (Below.refl _ _))⟩
instance RL.drN {W : World} {v : Value} {l : (List Nat)} {j : Nat} [h : RL W v l] : RL (W.drewN j) v l := ⟨h.out.keep (blw_drewN (Below.refl _ _) _)⟩
instance RL.kp {W W2 : World} {v : Value} {l : (List Nat)} [b : Kp1 W W2] [h : RL W v l] : RL W2 v l := ⟨h.out.keep (b.out)⟩
instance RL.tp {W W2 : World} {v : Value} {l : (List Nat)} {g : Nat} [b : Tp1 W W2 g] [h : RL W v l] : RL W2 v l := ⟨h.out.tp b.tp b.gb⟩
instance RL.st {W : World} {v : Value} {l : (List Nat)} {qb ib : Nat} {xv : Value} [b : SoftB W qb] [h : RL W v l] : RL (W.setCell ⟨qb, ib, none⟩ xv) v l := ⟨h.out.soft b⟩
instance (priority := low) CR.ofL {W : World} {v : Value} {l : List Nat} [h : RL W v l] : CR W v (val l) l.length := ⟨.of_rd h.out (Nat.le_refl _)⟩
theorem RL.len {W : World} {a : Option Addr} {n c : Nat} {l : List Nat} (h : RL W (.slice a n c) l) : n = l.length := h.out.len
theorem rl_row {w : World} {a : Option Addr} {len cap : Nat} {zs : List Int} (h : IsRow .u32 w a len cap zs) : ∃ l, l.length = len ∧ RL w (.slice a len cap) l := by
  obtain ⟨l, h1, h2⟩ := rd_of_row h
  exact ⟨l, h1, ⟨h2⟩⟩
theorem normalB_nfx (n : Nat) : normalB (nf n) = true := by
  by_cases h : n = 0
  · subst h; rfl
  · exact normalB_ne (nf_last n h)
theorem normalB_iff {l : List Nat} (hl : Dig l) : normalB l = true ↔ l = nf (val l) := by
  constructor
  · intro h
    refine (nf_of_normal hl ?_).symm
    simp only [normalB, Bool.or_eq_true, decide_eq_true_eq] at h
    rcases h with h | h
    · left; exact List.eq_nil_of_length_eq_zero h
    · right; exact h
  · intro h; rw [h]; exact normalB_nfx _
/-- The integer with sign g and digits l is in normal form. -/
def nrmI (g : Bool) (l : List Nat) : Bool := normalB l && (!g || decide (0 < l.length))
def nrmQ (g : Bool) (l ll : List Nat) : Bool := nrmI g l && normalB ll && decide (0 < ll.length) && decide (Nat.gcd (val l) (val ll) = 1)
def sameP (g : Bool) (l ll : List Nat) (x : Rat) : Bool := (decide (g = decide (x.num < 0)) && sameB l (nf x.num.natAbs)) && sameB ll (nf x.den)
def refB (g : Bool) (l ll : List Nat) (x : Rat) : Bool := sameP g l ll x && decide (0 < ll.length)
theorem nrm_ref {g : Bool} {l ll : List Nat} (hl : Dig l) (hll : Dig ll) : refB g l ll (mkRat (sgn g (val l)) (val ll)) = nrmQ g l ll := by
  rw [Bool.eq_iff_iff]
  simp only [refB, sameP, nrmQ, nrmI, sameB, Bool.and_eq_true, Bool.or_eq_true, decide_eq_true_eq, Bool.not_eq_true', normalB_iff hl, normalB_iff hll]
  generalize hx : mkRat (sgn g (val l)) (val ll) = x
  constructor
  · rintro ⟨⟨⟨h1, h2⟩, h3⟩, h4⟩
    have e2 : val l = x.num.natAbs := by rw [h2, val_nf]
    have e3 : val ll = x.den := by rw [h3, val_nf]
    refine ⟨⟨⟨⟨by rw [e2]; exact h2, ?_⟩, by rw [e3]; exact h3⟩, h4⟩, by rw [e2, e3]; exact x.reduced⟩
    cases g with
    | false => left; rfl
    | true =>
      right
      have hn : x.num < 0 := by simpa using h1.symm
      rw [h2]
      exact nf_len_pos (by omega)
  · rintro ⟨⟨⟨⟨h1, h2⟩, h3⟩, h4⟩, h5⟩
    have hz : val ll ≠ 0 := by
      intro e
      rw [e] at h3
      rw [h3] at h4
      simp [nf_zero] at h4
    by_cases h0 : val l = 0
    · have e1 : l = [] := by rw [h1, h0]; rfl
      have hg : g = false := by
        rcases h2 with h2 | h2
        · exact h2
        · rw [e1] at h2; simp at h2
      have e2 : val ll = 1 := by rw [h0, Nat.gcd_zero_left] at h5; exact h5
      have ex : x = 0 := by rw [← hx, h0, hg, sgn_false]; exact Rat.zero_mkRat _
      rw [ex]
      refine ⟨⟨⟨by rw [hg]; decide +kernel, by rw [e1]; rfl⟩, ?_⟩, h4⟩
      rw [h3, e2]; rfl
    · obtain ⟨q1, q2, _⟩ := sgn_mk (g := g) hz h0
      rw [hx, h5, Nat.div_one] at q1 q2
      refine ⟨⟨⟨?_, by rw [q1, sgn_abs]; exact h1⟩, by rw [q2]; exact h3⟩, h4⟩
      rw [q1]
      cases g with
      | false => simp [sgn]
      | true => simp [sgn]; omega
theorem natNormalLV {w : World} {a1 : Option Addr} {l1 c1 : Nat} {L : List Nat} {v : Bool} [h1 : RL w (.slice a1 l1 c1) L] (hv : Hid (normalB L = v)) :
    Calls Tryz.prog 263 #[.slice a1 l1 c1] w fun e w' => e = .returned (.bool v) ∧ w = w' := by
  rw [← hv.out]
  exact normal_any _ _ _ h1.out
theorem sameNL {w : World} {a1 a2 : Option Addr} {l1 c1 l2 c2 n k2 : Nat} {L : List Nat} [h1 : RL w (.slice a1 l1 c1) L] [h2 : CN w (.slice a2 l2 c2) n k2] :
    Calls Tryz.prog 100 #[.slice a1 l1 c1, .slice a2 l2 c2] w fun e w' => e = .returned (.bool (sameB L (nf n))) ∧ Below w.heap.size w w' := sameN_any _ _ _ _ _ h1.out h2.out.1
theorem natNormalL {w : World} {a1 : Option Addr} {l1 c1 : Nat} {L : List Nat} [h1 : RL w (.slice a1 l1 c1) L] :
    Calls Tryz.prog 263 #[.slice a1 l1 c1] w fun e w' => e = .returned (.bool (normalB L)) ∧ w = w' := normal_any _ _ _ h1.out
theorem sameIL {w : World} {g1 g2 v : Bool} {a1 a2 : Option Addr} {l1 c1 l2 c2 k2 : Nat} {L : List Nat} {x : Int} [h1 : RL w (.slice a1 l1 c1) L] [h2 : CZ w (.agg #[.bool g2, .slice a2 l2 c2]) x k2] (hv : Hid ((decide (g1 = decide (x < 0)) && sameB L (nf x.natAbs)) = v)) :
    Calls Tryz.prog 99 #[.agg #[.bool g1, .slice a1 l1 c1], .agg #[.bool g2, .slice a2 l2 c2]] w fun e w' => e = .returned (.bool v) ∧ Below w.heap.size w w' := by
  have e2 := (zz_of h2).1
  have i2 : CN w (.slice a2 l2 c2) x.natAbs k2 := ⟨(zz_of h2).2⟩
  have HV := Lib.hid hv.out
  clear h2 hv
  rw [← e2] at HV
  clear e2
  cases g1 <;> cases g2
  · go_enter Tryz.func99, Tryz.ntmps99
    go_wp2_with (first
    | (go_at_call 100; (with_reducible refine Calls.cE (sameNL) ?_); intros))
    go_ret
    exact E.fin (by rw [← HV.out]; rfl)
  · go_enter Tryz.func99, Tryz.ntmps99
    go_wp2_with fail
    go_ret
    exact E.fin (by rw [← HV.out]; rfl)
  · go_enter Tryz.func99, Tryz.ntmps99
    go_wp2_with fail
    go_ret
    exact E.fin (by rw [← HV.out]; rfl)
  · go_enter Tryz.func99, Tryz.ntmps99
    go_wp2_with (first
    | (go_at_call 100; (with_reducible refine Calls.cE (sameNL) ?_); intros))
    go_ret
    exact E.fin (by rw [← HV.out]; rfl)
theorem sameQL {w : World} {g1 g2 v : Bool} {a1 a2 aa1 aa2 : Option Addr} {l1 c1 l2 c2 ll1 cc1 ll2 cc2 k2 : Nat} {L LL : List Nat} {x : Rat} [h1 : RL w (.slice a1 l1 c1) L] [h1' : RL w (.slice aa1 ll1 cc1) LL] [h2 : CA w (.agg #[.bool g2, .slice a2 l2 c2, .slice aa2 ll2 cc2]) x k2] (hv : Hid (sameP g1 L LL x = v)) :
    Calls Tryz.prog 39 #[.agg #[.bool g1, .slice a1 l1 c1, .slice aa1 ll1 cc1], .agg #[.bool g2, .slice a2 l2 c2, .slice aa2 ll2 cc2]] w fun e w' => e = .returned (.bool v) ∧ Below w.heap.size w w' := by
  have i1 := h2.num
  have i2 := h2.den
  obtain ⟨b, hb⟩ : ∃ b, (decide (g1 = decide (x.num < 0)) && sameB L (nf x.num.natAbs)) = b := ⟨_, rfl⟩
  have HB := Lib.hid hb
  have HV : Hid ((b && sameB LL (nf x.den)) = v) := by show _ = _; rw [← hb]; exact hv.out
  clear hb hv
  cases b
  all_goals
    go_enter Tryz.func39, Tryz.ntmps39
    go_wp2_with (first
    | (go_at_call 99; (with_reducible refine Calls.cE (sameIL HB) ?_); intros)
    | (go_at_call 100; (with_reducible refine Calls.cE (sameNL) ?_); intros))
    go_ret
    exact E.fin (by rw [← HV.out]; rfl)
theorem intNormalL {w : World} {g1 v : Bool} {a1 : Option Addr} {l1 c1 : Nat} {L : List Nat} [h1 : RL w (.slice a1 l1 c1) L] (hv : Hid (nrmI g1 L = v)) :
    Calls Tryz.prog 262 #[.agg #[.bool g1, .slice a1 l1 c1]] w fun e w' => e = .returned (.bool v) ∧ Below w.heap.size w w' := by
  have hl := h1.len
  have HV : Hid ((normalB L && (!g1 || decide (0 < l1))) = v) := by show _ = _; rw [hl]; exact hv.out
  clear hv hl
  obtain ⟨b, hb⟩ : ∃ b, normalB L = b := ⟨_, rfl⟩
  rw [hb] at HV
  have HB := Lib.hid hb
  clear hb
  by_cases hp : 0 < l1
  · have hp2 : decide (0 < l1) = true := decide_eq_true hp
    rw [hp2] at HV
    cases b <;> cases g1
    all_goals
      go_enter Tryz.func262, Tryz.ntmps262
      go_wp2_with (first
    | (go_at_call 263; (with_reducible refine Calls.cS (natNormalLV HB) ?_); intros))
      go_ret
      exact E.fin (by rw [← HV.out]; rfl)
  · have hp2 : decide (0 < l1) = false := decide_eq_false hp
    obtain rfl : l1 = 0 := by omega
    clear hp
    rw [hp2] at HV
    cases b <;> cases g1
    all_goals
      go_enter Tryz.func262, Tryz.ntmps262
      go_wp2_with (first
    | (go_at_call 263; (with_reducible refine Calls.cS (natNormalLV HB) ?_); intros))
      go_ret
      exact E.fin (by rw [← HV.out]; rfl)
theorem fracNormalL {w : World} {g1 v : Bool} {a1 aa1 : Option Addr} {l1 c1 ll1 cc1 : Nat} {L LL : List Nat} [h1 : RL w (.slice a1 l1 c1) L] [h1' : RL w (.slice aa1 ll1 cc1) LL] (b1 : L.length ≤ 900000 ∧ LL.length ≤ 900000) (hv : Hid (nrmQ g1 L LL = v)) :
    Calls Tryz.prog 200 #[.agg #[.bool g1, .slice a1 l1 c1, .slice aa1 ll1 cc1]] w fun e w' => e = .returned (.bool v) ∧ Below w.heap.size w w' := by
  have hl := h1'.len
  have HV : Hid ((nrmI g1 L && normalB LL && decide (0 < ll1) && decide (Nat.gcd (val L) (val LL) = 1)) = v) := by show _ = _; rw [hl]; exact hv.out
  clear hv
  obtain ⟨b, hb⟩ : ∃ b, nrmI g1 L = b := ⟨_, rfl⟩
  obtain ⟨c, hc⟩ : ∃ c, normalB LL = c := ⟨_, rfl⟩
  rw [hb, hc] at HV
  have HB := Lib.hid hb
  have HC := Lib.hid hc
  have hg0 : val LL ≠ 0 → Nat.gcd (val L) (val LL) ≠ 0 := fun h e => h (Nat.eq_zero_of_gcd_eq_zero_right e)
  have hz : c = true → 0 < ll1 → val LL ≠ 0 := fun h1 h2 e => by
    rw [h1] at hc
    have := (normalB_iff h1'.out.dig).1 hc
    rw [e] at this
    rw [hl, this] at h2
    simp [nf_zero] at h2
  clear hb hc hl
  cases b
  · go_enter Tryz.func200, Tryz.ntmps200
    go_wp2_with (first
    | (go_at_call 262; (with_reducible refine Calls.cE (intNormalL HB) ?_); intros)
    | (go_at_call 263; (with_reducible refine Calls.cS (natNormalLV HC) ?_); intros)
    | (go_at_call 249; (with_reducible refine Calls.cN (gcdC (by omega)) ?_); intros)
    | (go_at_call 133; (with_reducible refine Calls.cS (bitsC (by omega)) ?_); intros))
    go_ret
    exact E.fin (by rw [← HV.out]; rfl)
  cases c
  · go_enter Tryz.func200, Tryz.ntmps200
    go_wp2_with (first
    | (go_at_call 262; (with_reducible refine Calls.cE (intNormalL HB) ?_); intros)
    | (go_at_call 263; (with_reducible refine Calls.cS (natNormalLV HC) ?_); intros)
    | (go_at_call 249; (with_reducible refine Calls.cN (gcdC (by omega)) ?_); intros)
    | (go_at_call 133; (with_reducible refine Calls.cS (bitsC (by omega)) ?_); intros))
    go_ret
    exact E.fin (by rw [← HV.out]; rfl)
  by_cases hp : 0 < ll1
  · have hgz := hg0 (hz rfl hp)
    rw [show decide (0 < ll1) = true from decide_eq_true hp] at HV
    clear hg0 hz
    by_cases hg : Nat.gcd (val L) (val LL) = 1
    · rw [show decide (Nat.gcd (val L) (val LL) = 1) = true from decide_eq_true hg] at HV
      have hn : (((nbits (Nat.gcd (val L) (val LL)) : Nat) : Int) == 1) = true := by rw [hg]; decide +kernel
      clear hg hgz
      go_enter Tryz.func200, Tryz.ntmps200
      go_wp2_with (first
    | (go_at_call 262; (with_reducible refine Calls.cE (intNormalL HB) ?_); intros)
    | (go_at_call 263; (with_reducible refine Calls.cS (natNormalLV HC) ?_); intros)
    | (go_at_call 249; (with_reducible refine Calls.cN (gcdC (by omega)) ?_); intros)
    | (go_at_call 133; (with_reducible refine Calls.cS (bitsC (by omega)) ?_); intros))
      go_ret
      exact E.fin (by rw [← HV.out]; rfl)
    · rw [show decide (Nat.gcd (val L) (val LL) = 1) = false from decide_eq_false hg] at HV
      have hn : (((nbits (Nat.gcd (val L) (val LL)) : Nat) : Int) == 1) = false := by
        rw [beq_eq_false_iff_ne]
        have := @nbits1 (Nat.gcd (val L) (val LL))
        omega
      clear hg hgz
      go_enter Tryz.func200, Tryz.ntmps200
      go_wp2_with (first
    | (go_at_call 262; (with_reducible refine Calls.cE (intNormalL HB) ?_); intros)
    | (go_at_call 263; (with_reducible refine Calls.cS (natNormalLV HC) ?_); intros)
    | (go_at_call 249; (with_reducible refine Calls.cN (gcdC (by omega)) ?_); intros)
    | (go_at_call 133; (with_reducible refine Calls.cS (bitsC (by omega)) ?_); intros))
      go_ret
      exact E.fin (by rw [← HV.out]; rfl)
  · rw [show decide (0 < ll1) = false from decide_eq_false hp] at HV
    obtain rfl : ll1 = 0 := by omega
    clear hp hg0 hz
    go_enter Tryz.func200, Tryz.ntmps200
    go_wp2_with (first
    | (go_at_call 262; (with_reducible refine Calls.cE (intNormalL HB) ?_); intros)
    | (go_at_call 263; (with_reducible refine Calls.cS (natNormalLV HC) ?_); intros)
    | (go_at_call 249; (with_reducible refine Calls.cN (gcdC (by omega)) ?_); intros)
    | (go_at_call 133; (with_reducible refine Calls.cS (bitsC (by omega)) ?_); intros))
    go_ret
    exact E.fin (by rw [← HV.out]; rfl)
theorem normalQL {w : World} {g1 v : Bool} {a1 aa1 : Option Addr} {l1 c1 ll1 cc1 : Nat} {L LL : List Nat} [h1 : RL w (.slice a1 l1 c1) L] [h1' : RL w (.slice aa1 ll1 cc1) LL] (b1 : L.length ≤ 40000 ∧ LL.length ≤ 40000) (hv : Hid (nrmQ g1 L LL = v)) :
    Calls Tryz.prog 179 #[.agg #[.bool g1, .slice a1 l1 c1, .slice aa1 ll1 cc1]] w fun e w' => e = .returned (.bool v) ∧ Below w.heap.size w w' := by
  have HV : Hid ((sameP g1 L LL (mkRat (sgn g1 (val L)) (val LL)) && decide (0 < ll1)) = v) := by
    show _ = _
    rw [← hv.out, ← nrm_ref h1.out.dig h1'.out.dig, h1'.len]
    rfl
  clear hv
  obtain ⟨b, hb⟩ : ∃ b, sameP g1 L LL (mkRat (sgn g1 (val L)) (val LL)) = b := ⟨_, rfl⟩
  rw [hb] at HV
  have HB := Lib.hid hb
  clear hb
  by_cases hp : 0 < ll1
  · rw [show decide (0 < ll1) = true from decide_eq_true hp] at HV
    cases b
    · go_enter Tryz.func179, Tryz.ntmps179
      go_wp2_with fail
      refine rgn [] [] fun hHeld => ?_
      refine tk 0 hHeld ?_
      refine tk 1 hHeld ?_
      refine st 2 fun K hK => ?_
      go_simp
      (with_reducible refine Calls.cQ (refQC (by omega)) ?_); intros
      refine hd hK ?_
      clear hHeld hK K
      intro hHeld
      refine st 3 fun K hK => ?_
      go_simp
      (with_reducible refine Calls.cA (toQC (by omega)) ?_); intros
      refine hd hK ?_
      clear hHeld hK K
      intro hHeld
      refine st 4 fun K hK => ?_
      go_simp
      (with_reducible refine Calls.cE (sameQL HB) ?_); intros
      refine hd hK ?_
      clear hHeld hK K
      intro hHeld
      refine tk 5 hHeld ?_
      refine tkU 6 hHeld ?_
      refine tkU 7 hHeld ?_
      refine tkU 8 hHeld ?_
      refine tkU 9 hHeld ?_
      refine tk 10 hHeld ?_
      refine tk 11 hHeld ?_
      refine dn ?_
      clear hHeld
      go_wp2
      go_ret
      exact E.fin (by rw [← HV.out]; rfl)
    · go_enter Tryz.func179, Tryz.ntmps179
      go_wp2_with fail
      refine rgn [] [] fun hHeld => ?_
      refine tk 0 hHeld ?_
      refine tk 1 hHeld ?_
      refine st 2 fun K hK => ?_
      go_simp
      (with_reducible refine Calls.cQ (refQC (by omega)) ?_); intros
      refine hd hK ?_
      clear hHeld hK K
      intro hHeld
      refine st 3 fun K hK => ?_
      go_simp
      (with_reducible refine Calls.cA (toQC (by omega)) ?_); intros
      refine hd hK ?_
      clear hHeld hK K
      intro hHeld
      refine st 4 fun K hK => ?_
      go_simp
      (with_reducible refine Calls.cE (sameQL HB) ?_); intros
      refine hd hK ?_
      clear hHeld hK K
      intro hHeld
      refine tk 5 hHeld ?_
      refine tk 6 hHeld ?_
      refine tk 7 hHeld ?_
      refine tk 8 hHeld ?_
      refine tk 9 hHeld ?_
      refine tk 10 hHeld ?_
      refine tk 11 hHeld ?_
      refine dn ?_
      clear hHeld
      go_wp2
      go_ret
      exact E.fin (by rw [← HV.out]; rfl)
  · rw [show decide (0 < ll1) = false from decide_eq_false hp] at HV
    obtain rfl : ll1 = 0 := by omega
    clear hp
    cases b
    · go_enter Tryz.func179, Tryz.ntmps179
      go_wp2_with fail
      refine rgn [] [] fun hHeld => ?_
      refine tk 0 hHeld ?_
      refine tk 1 hHeld ?_
      refine st 2 fun K hK => ?_
      go_simp
      (with_reducible refine Calls.cQ (refQC (by omega)) ?_); intros
      refine hd hK ?_
      clear hHeld hK K
      intro hHeld
      refine st 3 fun K hK => ?_
      go_simp
      (with_reducible refine Calls.cA (toQC (by omega)) ?_); intros
      refine hd hK ?_
      clear hHeld hK K
      intro hHeld
      refine st 4 fun K hK => ?_
      go_simp
      (with_reducible refine Calls.cE (sameQL HB) ?_); intros
      refine hd hK ?_
      clear hHeld hK K
      intro hHeld
      refine tk 5 hHeld ?_
      refine tkU 6 hHeld ?_
      refine tkU 7 hHeld ?_
      refine tkU 8 hHeld ?_
      refine tkU 9 hHeld ?_
      refine tk 10 hHeld ?_
      refine tk 11 hHeld ?_
      refine dn ?_
      clear hHeld
      go_wp2
      go_ret
      exact E.fin (by rw [← HV.out]; rfl)
    · go_enter Tryz.func179, Tryz.ntmps179
      go_wp2_with fail
      refine rgn [] [] fun hHeld => ?_
      refine tk 0 hHeld ?_
      refine tk 1 hHeld ?_
      refine st 2 fun K hK => ?_
      go_simp
      (with_reducible refine Calls.cQ (refQC (by omega)) ?_); intros
      refine hd hK ?_
      clear hHeld hK K
      intro hHeld
      refine st 3 fun K hK => ?_
      go_simp
      (with_reducible refine Calls.cA (toQC (by omega)) ?_); intros
      refine hd hK ?_
      clear hHeld hK K
      intro hHeld
      refine st 4 fun K hK => ?_
      go_simp
      (with_reducible refine Calls.cE (sameQL HB) ?_); intros
      refine hd hK ?_
      clear hHeld hK K
      intro hHeld
      refine tk 5 hHeld ?_
      refine tk 6 hHeld ?_
      refine tk 7 hHeld ?_
      refine tk 8 hHeld ?_
      refine tk 9 hHeld ?_
      refine tk 10 hHeld ?_
      refine tk 11 hHeld ?_
      refine dn ?_
      clear hHeld
      go_wp2
      go_ret
      exact E.fin (by rw [← HV.out]; rfl)
end Go.Proofs.YtdlnoeegboapkaaGreatDoor

/- Lists of points: the first of the equal ones, normal forms, and the functions that turn each point into another kind. printed by a small program (mkrg2.py). -/
namespace Go.Proofs.YtdlnoeegboapkaaGreatDoor
open Go.RowKit
set_option maxRecDepth 100000
set_option maxHeartbeats 40000000
set_option synthInstance.maxSize 100000
set_option synthInstance.maxHeartbeats 1000000

theorem ptEqualV {w : World} {n1x d1x n1y d1y n2x d2x n2y d2y : Int} {p1x p1y p2x p2y : Option Addr} {x1 y1 x2 y2 : Rat} {k1x k1y k2x k2y : Nat} {v : Bool} [h1x : CF w (.agg #[.int .i64 n1x, .int .i64 d1x, .pointer p1x]) x1 k1x] [h1y : CF w (.agg #[.int .i64 n1y, .int .i64 d1y, .pointer p1y]) y1 k1y] [h2x : CF w (.agg #[.int .i64 n2x, .int .i64 d2x, .pointer p2x]) x2 k2x] [h2y : CF w (.agg #[.int .i64 n2y, .int .i64 d2y, .pointer p2y]) y2 k2y] (b : k1x ≤ 20000 ∧ k1y ≤ 20000 ∧ k2x ≤ 20000 ∧ k2y ≤ 20000) (hv : Hid (decide ((x1, y1) = (x2, y2)) = v)) :
    Calls Tryz.prog 108 #[.agg #[.int .i64 n1x, .int .i64 d1x, .pointer p1x, .int .i64 n1y, .int .i64 d1y, .pointer p1y], .agg #[.int .i64 n2x, .int .i64 d2x, .pointer p2x, .int .i64 n2y, .int .i64 d2y, .pointer p2y]] w (fun e w' => e = .returned (.bool v) ∧ Below w.heap.size w w') :=
  (ptEqualC b).mono fun e w' ⟨h1, h2⟩ => ⟨by rw [h1, ← hv.out]; congr 2; rw [Bool.eq_iff_iff]; simp, h2⟩
/-- The first place of a point that is there. -/
def FirstRet (w : World) (L : List (Rat × Rat)) (p : Rat × Rat) (e : Ending) (w' : World) : Prop := ∃ m : Nat, e = .returned (.int .i64 (m : Int)) ∧ FirstAt L p m ∧ Below w.heap.size w w'
theorem Calls.cFirst {P : Program} {f : FuncId} {args : Array Value} {w : World} {L : List (Rat × Rat)} {p : Rat × Rat} {K : Ending → World → Prop} (h : Calls P f args w (FirstRet w L p))
    (hK : ∀ w' [Kp1 w w'] (m : Nat), FirstAt L p m → K (.returned (.int .i64 (m : Int))) w') : Calls P f args w K := by
  refine h.mono ?_
  rintro e w' ⟨m, rfl, hm, hb⟩
  exact @hK w' ⟨hb⟩ m hm
theorem firstC {w w0 : World} {a : Option Addr} {n c : Nat} {V : List FV} {L : List (Rat × Rat)} {k : Nat} [hs : Sl w (.slice a n c) V.length (rowF V) w0] [hp : PsF w V L k] {nx dx ny dy : Int} {px py : Option Addr} {x y : Rat} {kx ky : Nat} [hx : CF w (.agg #[.int .i64 nx, .int .i64 dx, .pointer px]) x kx] [hy : CF w (.agg #[.int .i64 ny, .int .i64 dy, .pointer py]) y ky] (b : k ≤ 20000 ∧ kx ≤ 20000 ∧ ky ≤ 20000) (hV : V.length ≤ 1000000) (hin : ∃ j, j < V.length ∧ pg L j = (x, y)) :
    Calls Tryz.prog 144 #[.slice a n c, .agg #[.int .i64 nx, .int .i64 dx, .pointer px, .int .i64 ny, .int .i64 dy, .pointer py]] w (FirstRet w L (x, y)) := by
  obtain rfl := hs.len
  obtain ⟨j0, hj0, hj1⟩ := hin
  obtain ⟨g, rfl, hA⟩ := hs.form (by omega)
  have hlen := Lib.hid hp.len
  go_enter Tryz.func144, Tryz.ntmps144
  go_wp2_with fail
  go_loopw [9] (fun i wr => ∃ q : Nat, i = .int .i64 (q : Int) ∧ q ≤ V.length ∧ Kp w wr ∧ Bx wr w.heap.size 152 [.int .i64 nx, .int .i64 dx, .pointer px, .int .i64 ny, .int .i64 dy, .pointer py] ∧ ∀ j, j < q → pg L j ≠ (x, y)) (fun i _ => V.length - (intOf i).toNat)
  case atStart => exact ⟨0, rfl, by omega, inferInstance, inferInstance, fun j hj => by omega⟩
  case round =>
    obtain ⟨q, rfl, hq, i1, i2, hno⟩ := hrel
    have kw := Kp1.mk i1.out
    have hlt : q < V.length := by
      rcases Nat.lt_or_ge q V.length with h | h
      · exact h
      · exact absurd hj1 (hno j0 (by omega))
    have hlt' : (q : Int) < V.length := by omega
    have lq : LtN q V.length := ⟨hlt⟩
    have ew : IntKind.i64.wrap ((q : Int) + 1) = (q : Int) + 1 := wr_in (by omega) (by omega)
    by_cases he : pg L q = (x, y)
    · have hv : Hid (decide (((pg L q).1, (pg L q).2) = (x, y)) = true) := Lib.hid (by rw [show ((pg L q).1, (pg L q).2) = pg L q from rfl, he]; simp)
      go_wp2_with (first
        | (go_at_call 108; (with_reducible refine Calls.cE (ptEqualV (by omega) hv) ?_); intros))
      go_ret
      exact ⟨q, rfl, ⟨by have := hlen.out; omega, he, hno⟩, (inferInstance : Kp w _).out⟩
    · have hv : Hid (decide (((pg L q).1, (pg L q).2) = (x, y)) = false) := Lib.hid (by rw [show ((pg L q).1, (pg L q).2) = pg L q from rfl]; simpa using he)
      go_wp2_with (first
        | (go_at_call 108; (with_reducible refine Calls.cE (ptEqualV (by omega) hv) ?_); intros))
      go_roundw
      case rel => exact ⟨q + 1, by go_num, by omega, inferInstance, inferInstance, fun j hj => by
        rcases Nat.lt_or_ge j q with h | h
        · exact hno j h
        · have : j = q := by omega
          subst this; exact he⟩
      case measure => simp [intOf]; omega
theorem rlZ {w : World} {g : Bool} {a : Option Addr} {l c : Nat} {z : Int} {k : Nat} (h : CZ w (.agg #[.bool g, .slice a l c]) z k) : RL w (.slice a l c) (nf z.natAbs) := ⟨(zz_of h).2.1⟩
theorem nrmZ {w : World} {g : Bool} {a : Option Addr} {l c : Nat} {z : Int} {k : Nat} (h : CZ w (.agg #[.bool g, .slice a l c]) z k) : nrmI g (nf z.natAbs) = true := by
  have hg := (zz_of h).1
  unfold nrmI
  rw [normalB_nfx, Bool.true_and]
  by_cases hz : z < 0
  · have : 0 < (nf z.natAbs).length := nf_len_pos (by omega)
    simp [this]
  · rw [hg, decide_eq_false hz]; rfl
theorem nrmA {w : World} {g : Bool} {a aa : Option Addr} {l c ll cc : Nat} {x : Rat} {k : Nat} (h : CA w (.agg #[.bool g, .slice a l c, .slice aa ll cc]) x k) : RL w (.slice a l c) (nf x.num.natAbs) ∧ RL w (.slice aa ll cc) (nf x.den) ∧ nrmQ g (nf x.num.natAbs) (nf x.den) = true := by
  have i1 := h.num
  have i2 := h.den
  refine ⟨rlZ i1, ⟨i2.out.1⟩, ?_⟩
  unfold nrmQ
  have h0 : 0 < (nf x.den).length := nf_len_pos x.den_nz
  simp only [nrmZ i1, normalB_nfx, val_nf, Bool.true_and, Bool.and_eq_true, decide_eq_true_eq]
  exact ⟨h0, x.reduced⟩
theorem fracNormalA9 {w : World} {g1 : Bool} {a1 : Option Addr} {l1 c1 : Nat} {aa1 : Option Addr} {ll1 cc1 : Nat} {x : Rat} {k1 : Nat} [h1 : CA w (.agg #[.bool g1, .slice a1 l1 c1, .slice aa1 ll1 cc1]) x k1] (b : k1 ≤ 80000) :
    Calls Tryz.prog 200 #[.agg #[.bool g1, .slice a1 l1 c1, .slice aa1 ll1 cc1]] w (fun e w' => e = .returned (.bool true) ∧ Below w.heap.size w w') := by
  obtain ⟨i1, i2, i3⟩ := nrmA h1
  have e1 : (nf x.num.natAbs).length ≤ k1 := by have := (zz_of h1.num).2.2; exact this
  have e2 : (nf x.den).length ≤ k1 := h1.den.out.2
  exact fracNormalL (L := nf x.num.natAbs) (LL := nf x.den) ⟨by omega, by omega⟩ (Lib.hid i3)
theorem gNormalA {w : World} {g1x g1y : Bool} {a1x aa1x a1y aa1y : Option Addr} {l1x c1x ll1x cc1x l1y c1y ll1y cc1y k1x k1y : Nat} {x y : Rat} [h1x : CA w (.agg #[.bool g1x, .slice a1x l1x c1x, .slice aa1x ll1x cc1x]) x k1x] [h1y : CA w (.agg #[.bool g1y, .slice a1y l1y c1y, .slice aa1y ll1y cc1y]) y k1y] (b : k1x ≤ 80000 ∧ k1y ≤ 80000) :
    Calls Tryz.prog 142 #[.agg #[.bool g1x, .slice a1x l1x c1x, .slice aa1x ll1x cc1x, .bool g1y, .slice a1y l1y c1y, .slice aa1y ll1y cc1y]] w (fun e w' => e = .returned (.bool true) ∧ Below w.heap.size w w') := by
  go_enter Tryz.func142, Tryz.ntmps142
  go_wp2_with (first
    | (go_at_call 200; (with_reducible refine Calls.cE (fracNormalA9 (by omega)) ?_); intros))
  go_ret
  exact E.fin rfl
theorem take_pg {L : List (Rat × Rat)} {q : Nat} (h : q < L.length) : L.take (q + 1) = L.take q ++ [((pg L q).1, (pg L q).2)] := by
  rw [List.take_succ_eq_append_getElem h, pg_get h]
theorem toPsC {w w0 : World} {a : Option Addr} {n c : Nat} {V : List AV} {L : List (Rat × Rat)} {k : Nat} [hs : Sl w (.slice a n c) V.length (rowA V) w0] [hp : PsQ w V L k] (b : k ≤ 400000) (hV : V.length ≤ 900000) :
    Calls Tryz.prog 27 #[.slice a n c] w (PsARet w L (k + 1)) := by
  obtain rfl := hs.len
  have hlen := Lib.hid hp.len
  go_enter Tryz.func27, Tryz.ntmps27
  go_wp2_with fail
  go_loopw [8, 3] (fun i o wr => ∃ (q : Nat) (U : List AV), i = .int .i64 (q : Int) ∧ q ≤ V.length ∧ Rn wr o 31 6 U.length (rowA U) w.heap.size wr ∧ Hid (U.length = q) ∧ PsA wr U (L.take q) (k + 1) ∧ Kp w wr) (fun i _ _ => V.length - (intOf i).toNat)
  case atStart => exact ⟨0, [], rfl, by omega, Rn.nil (Nat.le_refl _), Lib.hid rfl, PsA.nil, inferInstance⟩
  case round =>
    obtain ⟨q, U, rfl, hq, i1, hU, i2, i3⟩ := hrel
    have kw := Kp1.mk i3.out
    by_cases hlt : q < V.length
    · obtain ⟨g, rfl, hA⟩ := hs.form (by omega)
      have hlt' : (q : Int) < V.length := by omega
      have lq : LtN q V.length := ⟨hlt⟩
      have ew : IntKind.i64.wrap ((q : Int) + 1) = (q : Int) + 1 := wr_in (by omega) (by omega)
      go_wp2_with (first
        | (go_at_call 21; (with_reducible refine Calls.cPA (toPC (by omega)) ?_); intro w1 _ gx ax lx cx aax llx ccx gy ay ly cy aay lly ccy i7 i8)
        | (at_builtin; go_loud (refine app_rn1 (v := u3) rfl (.tmp 12) (.tmp 15) 55 rfl Tryz.underlying55 info_a rfl (by decide) (by decide) (by decide) inferInstance rfl (rowA_nd _) rfl (by rfl) ?h1 ?h2 (by first | omega | (have := hU.out; omega)) ?_); (case h1 => exact AV.one ⟨_, _, _, _, _, _, _, _, _, _, _, _, _, _⟩); (case h2 => exact AV.nd ⟨_, _, _, _, _, _, _, _, _, _, _, _, _, _⟩); intro g2 c2 w2 i9 i10 i11))
      go_roundw
      case rel => exact ⟨q + 1, U ++ [⟨gx, ax, lx, cx, aax, llx, ccx, gy, ay, ly, cy, aay, lly, ccy⟩], by go_num, by omega, Rn.cast2 (inferInstance) (by simp) (by rw [rowA_snoc]; rfl), Lib.hid (by rw [List.length_append, hU.out]; rfl), by rw [take_pg (by have := hlen.out; omega)]; exact PsA.add (by omega) (by omega), inferInstance⟩
      case measure => simp [intOf]; omega
    · obtain rfl : q = V.length := by omega
      rw [List.take_of_length_le (by have := hlen.out; omega)] at i2
      obtain ⟨a3, c3, rfl⟩ := i1.slice
      go_wp2_with fail
      go_ret
      exact PsARet.fin (V := U) rfl (by omega)
theorem ringApiC {w w0 : World} {a : Option Addr} {n c : Nat} {V : List FV} {L : List (Rat × Rat)} {k : Nat} [hs : Sl w (.slice a n c) V.length (rowF V) w0] [hp : PsF w V L k] (b : k ≤ 400000) (hV : V.length ≤ 900000) :
    Calls Tryz.prog 86 #[.slice a n c] w (PsARet w L (k)) := by
  obtain rfl := hs.len
  have hlen := Lib.hid hp.len
  go_enter Tryz.func86, Tryz.ntmps86
  go_wp2_with fail
  go_loopw [8, 3] (fun i o wr => ∃ (q : Nat) (U : List AV), i = .int .i64 (q : Int) ∧ q ≤ V.length ∧ Rn wr o 31 6 U.length (rowA U) w.heap.size wr ∧ Hid (U.length = q) ∧ PsA wr U (L.take q) (k) ∧ Kp w wr) (fun i _ _ => V.length - (intOf i).toNat)
  case atStart => exact ⟨0, [], rfl, by omega, Rn.nil (Nat.le_refl _), Lib.hid rfl, PsA.nil, inferInstance⟩
  case round =>
    obtain ⟨q, U, rfl, hq, i1, hU, i2, i3⟩ := hrel
    have kw := Kp1.mk i3.out
    by_cases hlt : q < V.length
    · obtain ⟨g, rfl, hA⟩ := hs.form (by omega)
      have hlt' : (q : Int) < V.length := by omega
      have lq : LtN q V.length := ⟨hlt⟩
      have ew : IntKind.i64.wrap ((q : Int) + 1) = (q : Int) + 1 := wr_in (by omega) (by omega)
      go_wp2_with (first
        | (go_at_call 122; (with_reducible refine Calls.cPA (ptApiC (by omega)) ?_); intro w1 _ gx ax lx cx aax llx ccx gy ay ly cy aay lly ccy i7 i8)
        | (at_builtin; go_loud (refine app_rn1 (v := u3) rfl (.tmp 12) (.tmp 15) 56 rfl Tryz.underlying56 info_a rfl (by decide) (by decide) (by decide) inferInstance rfl (rowA_nd _) rfl (by rfl) ?h1 ?h2 (by first | omega | (have := hU.out; omega)) ?_); (case h1 => exact AV.one ⟨_, _, _, _, _, _, _, _, _, _, _, _, _, _⟩); (case h2 => exact AV.nd ⟨_, _, _, _, _, _, _, _, _, _, _, _, _, _⟩); intro g2 c2 w2 i9 i10 i11))
      go_roundw
      case rel => exact ⟨q + 1, U ++ [⟨gx, ax, lx, cx, aax, llx, ccx, gy, ay, ly, cy, aay, lly, ccy⟩], by go_num, by omega, Rn.cast2 (inferInstance) (by simp) (by rw [rowA_snoc]; rfl), Lib.hid (by rw [List.length_append, hU.out]; rfl), by rw [take_pg (by have := hlen.out; omega)]; exact PsA.add (by omega) (by omega), inferInstance⟩
      case measure => simp [intOf]; omega
    · obtain rfl : q = V.length := by omega
      rw [List.take_of_length_le (by have := hlen.out; omega)] at i2
      obtain ⟨a3, c3, rfl⟩ := i1.slice
      go_wp2_with fail
      go_ret
      exact PsARet.fin (V := U) rfl (by omega)
end Go.Proofs.YtdlnoeegboapkaaGreatDoor

/- The edges of a ring: an iterator's contract, and a range over them whose variable lies in a box. printed by a small program (mkrg3.py). -/
namespace Go.Proofs.YtdlnoeegboapkaaGreatDoor
open Go.RowKit
set_option maxRecDepth 100000
set_option maxHeartbeats 40000000
set_option synthInstance.maxSize 100000
set_option synthInstance.maxHeartbeats 1000000
open Go.Shelf
set_option maxRecDepth 100000
set_option maxHeartbeats 40000000
set_option synthInstance.maxSize 100000
set_option synthInstance.maxHeartbeats 1000000

attribute [local go_sem] Oper.semAt_some
theorem nmwp {P : Program} {c : Code} {Q : Exit → Act → World → Prop} {a : Act} {W : World} (R : World → Prop) (h : R W) (k : ∀ W1, R W1 → c.wp P Q a W1) : c.wp P Q a W := k W h
theorem nmreg {F : Fence} {n : Nat} {P : Program} {id : Nat} {ops : Array Oper} {Q : Exit → Act → World → Prop} {a : Act} {W : World} (R : World → Prop) (h : R W) (k : ∀ W1, R W1 → (Code.region id ops true).wpIn F n P Q a W1) : (Code.region id ops true).wpIn F n P Q a W := k W h
/-- The edge i, as yield is handed it. -/
def edL (V : List FV) (i : Nat) : List Value := [.int .i64 (fv V i).nx, .int .i64 (fv V i).dx, .pointer (fv V i).px, .int .i64 (fv V i).ny, .int .i64 (fv V i).dy, .pointer (fv V i).py,
  .int .i64 (fv V ((i + 1) % V.length)).nx, .int .i64 (fv V ((i + 1) % V.length)).dx, .pointer (fv V ((i + 1) % V.length)).px, .int .i64 (fv V ((i + 1) % V.length)).ny, .int .i64 (fv V ((i + 1) % V.length)).dy, .pointer (fv V ((i + 1) % V.length)).py]
def encE (V : List FV) (i : Fin V.length) : Array Value := #[.int .i64 ((i.val : Nat) : Int), .agg (edL V i.val).toArray]
theorem upto_succ {n q : Nat} (h : q < n) : (List.finRange n).take (q + 1) = (List.finRange n).take q ++ [⟨q, h⟩] := by
  rw [List.take_succ_eq_append_getElem (by simpa using h)]
  simp
theorem edges1_in (n : Nat) (hn : 1 ≤ n) (l Br n₀ g c : Nat) (V : List FV) (hV : V.length ≤ 1000000) (hg : g < n₀) (hBr : Br < n₀) (J Jx : List (Fin V.length) → World → Prop) (W : World) (hn₀ : n₀ ≤ W.heap.size) (hJ : AbidesFrom W.heap.size J)
    (hY : ∀ pre x W1, J pre W1 → pre.length < V.length → YieldAt Fence.wide (n - 1) Tryz.prog l (encE V x) W1 fun e W' =>
      (e = .returned (.bool true) ∧ J (pre ++ [x]) W' ∧ Below n₀ W1 W') ∨ (e = .returned (.bool false) ∧ Jx (pre ++ [x]) W'))
    [hB : Bx W Br 131 [.slice (some ⟨g, 0, none⟩) V.length c]] {w0 : World} [hA : At W g (rowF V) w0] (h0 : J [] W) :
    CallsIn Fence.wide n Tryz.prog 202 #[.func (.yield l) #[] #[], .pointer (some ⟨Br, 0, none⟩)] W fun e W' => (∃ v, e = .returned v) ∧
      ((∃ ys, ys = List.finRange V.length ∧ J ys W') ∨ (∃ pre, pre <+: List.finRange V.length ∧ Jx pre W')) := by
  have hmx : Tryz.prog.follows .mixedOrders = true := by kernel_rfl
  refine callsIn_of_wp Tryz.func202 rfl trivial ?_ rfl
  simp only [Tryz.ntmps202, List.size_toArray, List.length_cons, List.length_nil, Nat.reduceAdd, Nat.reduceSub, Array.replicate_succ, Array.replicate_zero, List.push_toArray, List.append_toArray, List.nil_append, List.cons_append]
  gi_wp2
  gi_loopw [7] (fun i wr => ∃ q : Nat, q ≤ V.length ∧ i = .int .i64 (q : Int) ∧ J ((List.finRange V.length).take q) wr ∧ Below n₀ W wr) (fun i _ => V.length - (intOf i).toNat)
  case atStart => exact ⟨0, Nat.zero_le _, rfl, by simpa using h0, Below.refl _ _⟩
  case round =>
    obtain ⟨q, hq, rfl, hJs, hnx⟩ := hrel
    by_cases hlt : q < V.length
    · have hlt' : (q : Int) < V.length := by omega
      have i1 : Bx wr Br 131 [.slice (some ⟨g, 0, none⟩) V.length c] := ⟨(hnx.block Br hBr).trans hB.out⟩
      have i2 : At wr g (rowF V) wr := ⟨fun j u hu => (hnx.cell (p := ⟨g, j, none⟩) hg).trans (hA.out j u hu), Nat.lt_of_lt_of_le (Nat.lt_of_lt_of_le hg hn₀) hnx.size, Nat.lt_of_lt_of_le (Nat.lt_of_lt_of_le hg hn₀) hnx.size⟩
      have ew : IntKind.i64.wrap ((q : Int) + 1) = (q : Int) + 1 := wr_in (by omega) (by omega)
      obtain ⟨m, hm0⟩ : ∃ m, (q + 1) % V.length = m := ⟨_, rfl⟩
      have hm : m < V.length := by rw [← hm0]; exact Nat.mod_lt _ (by omega)
      have hm' : (m : Int) < V.length := by omega
      have er : ((q : Int) + 1).tmod (V.length : Int) = (m : Int) := by
        rw [← hm0, show (q : Int) + 1 = ((q + 1 : Nat) : Int) by omega]; exact (Int.ofNat_tmod _ _).symm
      have HM := Lib.hid hm0
      clear hm0
      have hz : ¬ ((V.length : Int) = 0) := by omega
      have hz2 : ¬ (V.length = 0) := by omega
      have hz3 : V ≠ [] := fun e => by rw [e] at hlt; simp at hlt
      gi_wp2
      refine nmreg (fun W4 => Kp wr W4 ∧ Bx W4 wr.heap.size 152 (fv V q).l ∧ Bx W4 Br 131 [.slice (some ⟨g, 0, none⟩) V.length c] ∧ At W4 g (rowF V) wr) ⟨inferInstance, Bx.re rfl, inferInstance, inferInstance⟩ ?_
      intro W4 ⟨k1, k2, k3, k4⟩
      have hJ4 := hJ _ _ W4.drew none hJs (below_gb (inferInstance : Kp wr W4.drew).out) (fun r e => by cases e)
      obtain ⟨fn, tmps, assign, body, hy, hR⟩ := hY _ ⟨q, hlt⟩ _ hJ4 (by simp; omega)
      have hR' := hR.mono (R' := fun e W' => ∃ b : Bool, e = .returned (.bool b) ∧ (b = true → J ((List.finRange V.length).take (q + 1)) W' ∧ Below n₀ W4.drew W') ∧ (b = false → Jx ((List.finRange V.length).take (q + 1)) W')) (by
        rintro e W' (⟨h1, h2, h3⟩ | ⟨h1, h2⟩)
        · exact ⟨true, h1, fun _ => ⟨(by rw [upto_succ hlt]; exact h2), h3⟩, fun h => (by cases h)⟩
        · exact ⟨false, h1, fun h => (by cases h), fun _ => (by rw [upto_succ hlt]; exact h2)⟩)
      clear hR
      dsimp only [encE, edL] at hy
      rw [HM.out] at hy
      simp only [FV.l] at k2
      clear hY hJ
      gi_region_with_o (refine hR'.mono ?_; rintro e W5 ⟨b, rfl, hb1, hb2⟩)
      all_goals
        cases b with
        | true =>
          obtain ⟨hJ5, hk5⟩ := hb1 rfl
          have hk6 : Below n₀ wr W5 := ((inferInstance : Kp wr W4.drew).out.mono (Nat.le_trans hn₀ hnx.size)).trans hk5
          gi_wp2
          go_roundw
          case rel => exact ⟨q + 1, by omega, by go_num, hJ5, hnx.trans hk6⟩
          case measure => simp [intOf]; omega
        | false =>
          have hx5 := hb2 rfl
          gi_wp2
          refine bodyPost_ret (results_none rfl _ _ _) rfl ?_
          exact ⟨⟨_, rfl⟩, .inr ⟨_, List.take_prefix _ _, hx5⟩⟩
    · obtain rfl : q = V.length := by omega
      gi_wp2
      go_end0
      exact ⟨⟨_, rfl⟩, .inl ⟨_, rfl, by rw [List.take_of_length_le (by simp)] at hJs; exact hJs⟩⟩
theorem edgesC {w : World} {a : Option Addr} {n c : Nat} : Calls Tryz.prog 145 #[.slice a n c] w fun e w' => e = .returned (.func (.func 202) #[] #[.pointer (some ⟨w.heap.size, 0, none⟩)]) ∧ w' = w.alloc (.cells #[.slice a n c] 131) := by
  go_enter Tryz.func145, Tryz.ntmps145
  go_wp2
  go_ret
  exact ⟨rfl, rfl⟩
theorem Calls.cEdges {P : Program} {f : FuncId} {args : Array Value} {w : World} {fe : Nat} {t : TypeId} {v : Value} {K : Ending → World → Prop} (h : Calls P f args w fun e w' => e = .returned (.func (.func fe) #[] #[.pointer (some ⟨w.heap.size, 0, none⟩)]) ∧ w' = w.alloc (.cells #[v] t))
    (hK : ∀ w' [Kp1 w w'] (b : Nat) [Bx w' b t [v]], K (.returned (.func (.func fe) #[] #[.pointer (some ⟨b, 0, none⟩)])) w') : Calls P f args w K := by
  refine h.mono ?_
  rintro e w' ⟨rfl, rfl⟩
  exact @hK _ ⟨blw_one _ _⟩ _ (inferInstance : Bx (w.alloc (.cells [v].toArray t (0, 0))) w.heap.size t [v])
theorem edges_stops (n : Nat) (hn : 1 ≤ n) (Br g c : Nat) (V : List FV) (hV : V.length ≤ 1000000) (w : World) {w0 : World} [hB : Bx w Br 131 [.slice (some ⟨g, 0, none⟩) V.length c]] [hA : At w g (rowF V) w0] :
    SeqStopsK Fence.wide n Tryz.prog 202 #[.pointer (some ⟨Br, 0, none⟩)] (encE V) (Below w.heap.size) (fun ys => ys = List.finRange V.length) (fun pre => pre <+: List.finRange V.length) V.length w := fun l J Jx W hW hJ _ hY h0 => by
  have kW : Kp1 w W := ⟨hW⟩
  exact edges1_in n hn l Br w.heap.size g c V hV hA.ltW hB.lt J Jx W hW.size hJ hY h0
/-- A range over the edges, whose variable lies in a box: the frame of a round is that at its beginning, with the slots pi and pe set, and i and e behind them. -/
theorem range_edges {n : Nat} {Q : Exit → Act → World → Prop} {w w0 : World} {go_ : Operand} {ps : Array Tmp} {assign body : Code} {Ts : Array Value} {Br g c : Nat} {V : List FV} (hn : 3 ≤ n) (hg : Act.eval { tmps := Ts, defers := [] } go_ = .func (.func 202) #[] #[.pointer (some ⟨Br, 0, none⟩)]) (hV : V.length ≤ 1000000)
    [hB : Bx w Br 131 [.slice (some ⟨g, 0, none⟩) V.length c]] [hA : At w g (rowF V) w0] (hps : ps.size = 2) (upd : Array Value → Fin V.length → Nat → Array Value)
    (I : List (Fin V.length) → World → Prop) (Ix : Code → List (Fin V.length) → World → Prop) (hI : OwnFrom w.heap.size I) (hIx : ∀ c, OwnFrom w.heap.size (Ix c)) (h0 : I [] w)
    (hassign : ∀ (l : Nat) (pre : List (Fin V.length)) (x : Fin V.length) (W : World) (K : Act → World → Prop), I pre W → (∀ W' b, W.heap.size = b → Kp W W' → Bx W' b 238 (edL V x.val) → K { tmps := upd Ts x b, defers := [] } W') →
      assign.wpIn (Fence.wide.inRound l) (n - 1 - 1) Tryz.prog (Exit.then K (fun _ _ _ => False)) { tmps := (ps.zip (encE V x)).foldl (fun t (p, v) => t.setIfInBounds p v) Ts, defers := [] } W)
    (hIb : ∀ pre W W', I pre W → Kp W W' → I pre W') (hIs : ∀ pre W, I pre W → w.heap.size ≤ W.heap.size)
    (hbody : ∀ (l : Nat) (pre : List (Fin V.length)) (x : Fin V.length) (b : Nat) (W : World), I pre W → w.heap.size ≤ b → Bx W b 238 (edL V x.val) → pre.length < V.length → body.wpIn (Fence.wide.inRound l) (n - 1 - 1) Tryz.prog (ownPostG w.heap.size (Below w.heap.size) I Ix (pre ++ [x]) W) { tmps := upd Ts x b, defers := [] } W)
    (hdone : ∀ (D : Nat) (W : World), w.heap.size ≤ D → I (List.finRange V.length) W → W.heap[D]? = some (.deferred (some [])) → Q .normal { tmps := Ts, defers := [{ target := .collected D, args := #[] }] } W)
    (hstop : ∀ (D : Nat) (c : Code) (pre : List (Fin V.length)) (W : World), w.heap.size ≤ D → pre <+: List.finRange V.length → Ix c pre W → W.heap[D]? = some (.deferred (some [])) → c.wpIn Fence.wide n Tryz.prog Q { tmps := Ts, defers := [{ target := .collected D, args := #[] }] } W) :
    (Code.rangeFunc go_ ps assign body).wp Tryz.prog Q { tmps := Ts, defers := [] } w := by
  refine (wpIn_wide (n := n)).1 ?_
  refine wpIn_rangeFunc_ownH rfl (by omega) hg trivial (enters_of Tryz.func202 (by kernel_rfl) rfl) (edges_stops (n - 1) (by omega) Br g c V hV w (w0 := w0)) belowK_t (belowK_b (Nat.le_refl _)) (Below.refl _ _) (fun _ => by rw [hps]; rfl)
    I Ix hI hIx h0 (fun x a' W => ∃ b, w.heap.size ≤ b ∧ Bx W b 238 (edL V x.val) ∧ a' = { tmps := upd Ts x b, defers := [] }) ?_ ?_ ?_ ?_ ?_
  · intro x a' s A B row ⟨b, h1, h2, h3⟩ hgr hr
    refine ⟨b, h1, ⟨?_⟩, h3⟩
    rw [hgr.block b h2.lt (fun e => ?_)]
    · exact h2.out
    · obtain ⟨_, o, ho, hc⟩ := hr b e.symm
      rw [h2.out] at ho
      cases ho
      cases hc
  · intro l pre x W K hi hK
    refine hassign l pre x W K hi (fun W' b hb hk hx => ?_)
    have hs := hIs _ _ hi
    exact hK _ _ ((KeepsOthers.of_grownBy (row := none) (below_gb hk.out) (fun j o e => by cases e)).from _) (hk.out.mono hs) (hIb _ _ _ hi hk) ⟨b, by omega, hx, rfl⟩
  · rintro l pre x a' W _ _ hi ⟨b, h1, h2, rfl⟩ hlt
    exact hbody l pre x b W hi h1 h2 hlt
  · rintro D xs W hD rfl hi hK
    exact hdone D W hD hi hK
  · exact hstop
end Go.Proofs.YtdlnoeegboapkaaGreatDoor

/- geo.RingOf at a valid ring. printed by a small program (mkrg4.py). -/
namespace Go.Proofs.YtdlnoeegboapkaaGreatDoor
open Go.RowKit
set_option maxRecDepth 100000
set_option maxHeartbeats 40000000
set_option synthInstance.maxSize 100000
set_option synthInstance.maxHeartbeats 1000000
set_option linter.unusedVariables false
attribute [local go_sem] Oper.semAt_some

/-- A function whose body holds a range over a function. -/
theorem calls_marks {P : Program} {f : FuncId} {fn : Func} {c : Code} {args : Array Value} {w : World} {R : Ending → World → Prop} (hf : P.funcs[f]? = some fn) (hb : fn.body = some c)
    (h : c.wp P (bodyPostM Fence.wide 5 P fn R) { tmps := args ++ Array.replicate (fn.ntmps - args.size) undef, defers := [] } w) : Calls P f args w R :=
  (callsIn_wide (n := 5)).1 (callsIn_of_wp_marks hf hb trivial ((wpIn_wide (n := 5)).2 h) rfl)
theorem retM_nil {P : Program} {fn : Func} {R : Ending → World → Prop} {a : Act} {w : World} (h : bodyPost P fn R .ret a w) : bodyPostM Fence.wide 5 P fn R .ret a w := by
  obtain ⟨h1, v, h2, h3⟩ := h
  show LeavesInM _ _ _ _ _ _ a.defers .returning w
  rw [h1]
  exact ⟨v, h2, h3⟩
theorem retM_mark {P : Program} {fn : Func} {R : Ending → World → Prop} {a : Act} {w : World} {D : Nat} (hd : a.defers = [{ target := .collected D, args := #[] }]) (hK : w.heap[D]? = some (.deferred (some [])))
    (h : bodyPost P fn R .ret { a with defers := [] } (w.putObj D (.deferred none))) : bodyPostM Fence.wide 5 P fn R .ret a w := by
  obtain ⟨_, v, h2, h3⟩ := h
  show LeavesInM _ _ _ _ _ _ a.defers .returning w
  rw [hd]
  exact ⟨by simp, .inl ⟨_, _, rfl, run_takeDeferred hK, v, h2, h3⟩⟩
theorem inR {l n : Nat} {P : Program} {f : FuncId} {args : Array Value} {W : World} {K : Ending → World → Prop} (h : Calls P f args W K) : CallsIn (Fence.wide.inRound l) n P f args W K := CallsIn.inRound l (callsIn_wide.2 h)
theorem keepsK {B : Nat} {W W' : World} (h : Kp W W') : KeepsFrom B W W' := (KeepsOthers.of_grownBy (row := none) (below_gb h.out) (fun j o e => by cases e)).from _
/-- From W to W2 just a block for deferred calls, D, was shut. -/
class Dp1 (W : outParam World) (W2 : World) (D : outParam Nat) : Prop where
  eq : W2 = W.putObj D (.deferred none)
  was : ∃ x, W.heap[D]? = some (.deferred x)
section
variable {W W2 w0 w : World} {D : Nat}
theorem Dp1.size (k : Dp1 W W2 D) : W2.heap.size = W.heap.size := by rw [k.eq]; simp [World.putObj]
theorem Dp1.block (k : Dp1 W W2 D) {b : Nat} (h : b ≠ D) : W2.heap[b]? = W.heap[b]? := by
  rw [k.eq]; simp only [World.putObj, Array.getElem?_setIfInBounds]
  rw [if_neg (fun e => h e.symm)]
theorem Dp1.cells (k : Dp1 W W2 D) {b : Nat} {l : Array Value} {t : TypeId} {z : Nat × Nat} (h : W.heap[b]? = some (.cells l t z)) : W2.heap[b]? = some (.cells l t z) := by
  obtain ⟨x, hx⟩ := k.was
  rw [k.block (fun e => by rw [e, hx] at h; cases h)]
  exact h
theorem Dp1.cell (k : Dp1 W W2 D) {a : Addr} {v : Value} (h : W.cell? a = some v) : W2.cell? a = some v := by
  obtain ⟨x, hx⟩ := k.was
  have hb : W2.heap[a.block]? = W.heap[a.block]? := k.block (fun e => by
    unfold World.cell? at h
    rw [e, hx] at h
    simp at h)
  unfold World.cell? at h ⊢
  rw [hb]
  exact h
theorem Rd.dp {v : Value} {l : List Nat} (h : Rd W v l) (k : Dp1 W W2 D) : Rd W2 v l := by
  obtain ⟨a, cap, rfl, h1, h2, h3, h4⟩ := h
  refine ⟨a, cap, rfl, h1, h2, h3, fun h0 => ?_⟩
  obtain ⟨b, off, rfl, hcell⟩ := h4 h0
  exact ⟨b, off, rfl, fun j hj => k.cell (hcell j hj)⟩
theorem Pres.dp (k : Dp1 W W2 D) : Pres W W2 := ⟨fun h => ⟨h.1.dp k, h.2⟩, fun h => by obtain ⟨l, h1, h2⟩ := h; exact ⟨l, h1.dp k, h2⟩, fun {b l} y => k.cells y⟩
instance (priority := low) CN.dp {v : Value} {n k : Nat} [b : Dp1 W W2 D] [h : CN W v n k] : CN W2 v n k := ⟨(Pres.dp b).nn h.out⟩
instance (priority := low) CQ.dp {v : Value} {q : Rat} {k : Nat} [b : Dp1 W W2 D] [h : CQ W v q k] : CQ W2 v q k := ⟨h.out.map (Pres.dp b)⟩
instance (priority := low) CA.dp {v : Value} {q : Rat} {k : Nat} [b : Dp1 W W2 D] [h : CA W v q k] : CA W2 v q k := ⟨h.out.map (Pres.dp b)⟩
instance (priority := low) CF.dp {v : Value} {q : Rat} {k : Nat} [b : Dp1 W W2 D] [h : CF W v q k] : CF W2 v q k := ⟨h.out.map (Pres.dp b)⟩
instance (priority := low) Bx.dp {b : Nat} {t : TypeId} {l : List Value} [k : Dp1 W W2 D] [h : Bx W b t l] : Bx W2 b t l := ⟨k.cells h.out⟩
instance (priority := low) At.dp {g : Nat} {xs : List Value} [k : Dp1 W W2 D] [h : At W g xs w0] : At W2 g xs w0 := ⟨fun j u hu => k.cell (h.out j u hu), h.lt, by rw [k.size]; exact h.ltW⟩
instance (priority := low) Sl.dp {v : Value} {n : Nat} {xs : List Value} [k : Dp1 W W2 D] [h : Sl W v n xs w0] : Sl W2 v n xs w0 := by
  refine ⟨?_, h.lt, by rw [k.size]; exact h.ltW⟩
  rcases h.out with e | ⟨g, c, e, hc⟩
  · exact .inl e
  · exact .inr ⟨g, c, e, fun j u hu => k.cell (hc j u hu)⟩
instance (priority := low) Kp.dp [k : Dp1 W W2 D] [h : Kp w W] [n : Ge w D] : Kp w W2 := ⟨h.out.trans (by
  obtain ⟨x, hx⟩ := k.was
  rw [k.eq]
  exact ⟨rfl, rfl, rfl, by simp [World.putObj], fun i hi => by
    simp only [World.putObj, Array.getElem?_setIfInBounds]
    rw [if_neg (by have := n.out; omega)]⟩)⟩
instance PsF.dp {V : List FV} {L : List (Rat × Rat)} {k : Nat} [b : Dp1 W W2 D] [h : PsF W V L k] : PsF W2 V L k := ⟨h.len, fun i hi => by have := h.x i hi; infer_instance, fun i hi => by have := h.y i hi; infer_instance⟩
end
instance : BoxT 131 := by constructor <;> decide
instance : BoxT 238 := by constructor <;> decide
theorem def_set {W : World} {q i D : Nat} {x : Value} {y : Option (List Deferred)} (h : W.heap[D]? = some (.deferred y)) (hn : q ≠ D) : (W.setCell ⟨q, i, none⟩ x).heap[D]? = some (.deferred y) := by
  simp only [World.setCell, Array.getElem?_modify]
  rw [if_neg hn]; exact h
theorem load_one {P : Program} {W : World} {b : Nat} {ty t : TypeId} {d : TypeDesc} {v : Value} {l : List Value} [h : Bx W b t (v :: l)] (hu : P.underlying ty = some d) (hd : (match d with | .struct _ | .array _ _ => true | _ => false) = false) : (loadVar ty ⟨b, 0, none⟩).run P W = .ok v W := by
  have hagg : (isAgg ty).run P W = .ok false W := by
    unfold isAgg
    rw [Sem.run_bind, run_underlying hu W]
    cases d <;> simp_all
  have hc : W.cell? ⟨b, 0, none⟩ = some v := by rw [cell_bx]; rfl
  simp [loadVar, hagg, hc]
theorem ret_cc {P : Program} {fn : Func} {R : Ending → World → Prop} {a : Act} {W : World} {p q : Tmp} {ty ty2 : TypeId} {b1 b2 : Nat} {v1 v2 : Value} (hr : fn.results = #[.cell p ty, .cell q ty2])
    (hp : a.tmps.getD p undef = .pointer (some ⟨b1, 0, none⟩)) (hq : a.tmps.getD q undef = .pointer (some ⟨b2, 0, none⟩)) (h1 : (loadVar ty ⟨b1, 0, none⟩).run P W = .ok v1 W) (h2 : (loadVar ty2 ⟨b2, 0, none⟩).run P W = .ok v2 W)
    (hdf : a.defers = []) (hR : R (.returned (.tuple #[v1, v2])) W) : bodyPost P fn R .ret a W := by
  refine ⟨hdf, _, ?_, hR⟩
  have hp' : a.tmps[p]?.getD undef = .pointer (some ⟨b1, 0, none⟩) := by simpa using hp
  have hq' : a.tmps[q]?.getD undef = .pointer (some ⟨b2, 0, none⟩) := by simpa using hq
  simp [results, hr, hp', hq', asAddr, h1, h2]
/-- The end of a walk: a slice and an error, each out of its box. -/
theorem ret_se {P : Program} {fn : Func} {R : Ending → World → Prop} {a : Act} {W : World} {p q : Tmp} {ty ty2 t1 t2 : TypeId} {d d2 : TypeDesc} {b1 b2 : Nat} {v1 v2 : Value} [i1 : Bx W b1 t1 [v1]] [i2 : Bx W b2 t2 [v2]] (hr : fn.results = #[.cell p ty, .cell q ty2])
    (hu : P.underlying ty = some d) (hd : (match d with | .struct _ | .array _ _ => true | _ => false) = false) (hu2 : P.underlying ty2 = some d2) (hd2 : (match d2 with | .struct _ | .array _ _ => true | _ => false) = false)
    (hp : a.tmps.getD p undef = .pointer (some ⟨b1, 0, none⟩)) (hq : a.tmps.getD q undef = .pointer (some ⟨b2, 0, none⟩)) (hdf : a.defers = []) (hR : R (.returned (.tuple #[v1, v2])) W) : bodyPost P fn R .ret a W :=
  ret_cc hr hp hq (load_one hu hd) (load_one hu2 hd2) hdf hR
theorem ringOfOk {w w0 : World} {a : Option Addr} {n c : Nat} {V : List AV} {L : List (Rat × Rat)} {k : Nat} [hs : Sl w (.slice a n c) V.length (rowA V) w0] [hp : PsA w V L k] (b : k ≤ 19000) (hV : V.length ≤ 4096) (hR : RingOK L) :
    Calls Tryz.prog 77 #[.slice a n c] w (PsFEr w L (k + 2)) := by
  obtain rfl := hs.len
  have hlen := Lib.hid hp.len
  have hpos : 0 < V.length := by rw [hlen.out]; exact hR.pos
  have HR := Lib.hid hR
  clear hR
  obtain ⟨g, rfl, hA⟩ := hs.form hpos
  have hno : ¬ (4096 < (V.length : Int)) := by omega
  refine calls_marks Tryz.func77 rfl ?_
  simp only [Tryz.ntmps77, List.size_toArray, List.length_cons, List.length_nil, Nat.reduceAdd, Nat.reduceSub, Array.replicate_succ, Array.replicate_zero, List.push_toArray, List.append_toArray, List.nil_append, List.cons_append]
  go_wp2_with fail
  go_loopw [21, 4] (fun i o wr => ∃ (q : Nat) (U : List FV), i = .int .i64 (q : Int) ∧ q ≤ V.length ∧ Rn wr o 152 6 U.length (rowF U) (w.heap.size + 1 + 1) wr ∧ Hid (U.length = q) ∧ PsF wr U (L.take q) (k + 2) ∧ Bx wr w.heap.size 131 [.slice none 0 0] ∧ Bx wr (w.heap.size + 1) 36 [.nilIface] ∧ Kp w wr) (fun i _ _ => V.length - (intOf i).toNat)
  case atStart => exact ⟨0, [], rfl, by omega, Rn.nil (by simp), Lib.hid rfl, PsF.nil, inferInstance, inferInstance, inferInstance⟩
  case round =>
    obtain ⟨q, U, rfl, hq, i1, hU, i2, i3, i4, i5⟩ := hrel
    have kw := Kp1.mk i5.out
    by_cases hlt : q < V.length
    · have hlt' : (q : Int) < V.length := by omega
      have lq : LtN q V.length := ⟨hlt⟩
      have ew : IntKind.i64.wrap ((q : Int) + 1) = (q : Int) + 1 := wr_in (by omega) (by omega)
      go_wp2_with (first
        | (go_at_call 142; (with_reducible refine Calls.cE (gNormalA (by omega)) ?_); intros)
        | (go_at_call 123; (with_reducible refine Calls.cPF (ptOfC (by omega)) ?_); intro w1 _ nx dx px ny dy py i7 i8)
        | (at_builtin; go_loud (refine app_rn1 (v := u4) rfl (.tmp 37) (.tmp 40) 131 rfl Tryz.underlying131 info_f rfl (by decide) (by decide) (by decide) inferInstance rfl (rowF_nd _) rfl (by rfl) ?h1 ?h2 (by first | omega | (have := hU.out; omega)) ?_); (case h1 => exact FV.one ⟨_, _, _, _, _, _⟩); (case h2 => exact FV.nd ⟨_, _, _, _, _, _⟩); intro g2 c2 w2 i9 i10 i11))
      go_roundw
      case rel => exact ⟨q + 1, U ++ [⟨nx, dx, px, ny, dy, py⟩], by go_num, by omega, Rn.cast2 (inferInstance) (by simp) (by rw [rowF_snoc]; rfl), Lib.hid (by rw [List.length_append, hU.out]; rfl), by rw [take_pg (by have := hlen.out; omega)]; exact PsF.add (by first | omega | simp) (by first | omega | simp), inferInstance, inferInstance, inferInstance⟩
      case measure => simp [intOf]; omega
    · obtain rfl : q = V.length := by omega
      rw [List.take_of_length_le (by have := hlen.out; omega)] at i2
      have hUl : Hid (U.length = L.length) := Lib.hid (hU.out.trans hlen.out)
      have hU4 : U.length ≤ 4096 := by rw [hU.out]; exact hV
      have hU0 : 0 < U.length := by rw [hU.out]; exact hpos
      clear hU hs hq hlt hA
      obtain ⟨a3, c3, rfl⟩ := i1.slice
      obtain ⟨g2, rfl, hA2⟩ := (Sl.ofRn (h := i1)).form hU0
      go_wp2_with fail
      go_loopw [45, 7] (fun i d wx => ∃ (q m : Nat), i = .int .i64 (q : Int) ∧ q ≤ U.length ∧ d = .int .i64 (m : Int) ∧ Hid (min 3 (dsc L q) = m) ∧ Kp wr wx) (fun i _ _ => U.length - (intOf i).toNat)
      case atStart => exact ⟨0, 0, rfl, by omega, rfl, Lib.hid rfl, inferInstance⟩
      case round =>
        obtain ⟨q, m, rfl, hq, rfl, hm, j1⟩ := hrel
        have kx := Kp1.mk j1.out
        have hm3 : m ≤ 3 := by rw [← hm.out]; omega
        by_cases hlt : q < U.length
        · have hlt' : (q : Int) < U.length := by omega
          have lq : LtN q U.length := ⟨hlt⟩
          have ew : IntKind.i64.wrap ((q : Int) + 1) = (q : Int) + 1 := wr_in (by omega) (by omega)
          have em : IntKind.i64.wrap ((m : Int) + 1) = (m : Int) + 1 := wr_in (by omega) (by omega)
          by_cases h3 : m < 3
          · have h3' : (m : Int) < 3 := by omega
            by_cases hn : pg L q ∈ L.take q
            · go_wp2_with (first
                | (go_at_call 144; go_loud ((with_reducible refine Calls.cFirst (firstC (V := U) (by omega) (by omega) ⟨q, hlt, rfl⟩) ?_); intro w1 _ m1 hm1); have hne : ¬ ((m1 : Int) = (q : Int)) := fun e => (FirstAt.new (by rw [← hUl.out]; exact hlt) hm1).1 (by omega) hn; have hne2 : ((m1 : Int) == (q : Int)) = false := beq_false_of_ne hne; clear hm1))
              go_roundw
              case rel => exact ⟨q + 1, m, by go_num, by omega, rfl, Lib.hid (by have h2 := hm.out; simp only [dsc, if_pos hn]; omega), inferInstance⟩
              case measure => simp [intOf]; omega
            · go_wp2_with (first
                | (go_at_call 144; (with_reducible refine Calls.cFirst (firstC (V := U) (by omega) (by omega) ⟨q, hlt, rfl⟩) ?_); intro w1 _ m1 hm1; obtain rfl : m1 = q := (FirstAt.new (by rw [← hUl.out]; exact hlt) hm1).2 hn; clear hm1))
              go_roundw
              case rel => exact ⟨m1 + 1, m + 1, by go_num, by omega, by go_num, Lib.hid (by have h2 := hm.out; simp only [dsc, if_neg hn]; omega), inferInstance⟩
              case measure => simp [intOf]; omega
          · obtain rfl : m = 3 := by omega
            go_wp2_with fail
            go_roundw
            case rel => exact ⟨q + 1, 3, by go_num, by omega, rfl, Lib.hid (by have h2 := hm.out; have := dsc_mono L (show q ≤ q + 1 by omega); omega), inferInstance⟩
            case measure => simp [intOf]; omega
        · obtain rfl : q = U.length := by omega
          have h3 : m = 3 := by have := HR.out.three; rw [← hUl.out] at this; have := hm.out; omega
          subst h3
          go_wp2_with (first
            | (go_at_call 145; (with_reducible refine Calls.cEdges edgesC ?_); intro w1 _ br _))
          refine range_edges (n := 5) (by omega) rfl (by omega) (V := U) (Br := br) (g := g2) (c := c3) rfl (fun T x b => (((T.setIfInBounds 70 (.int .i64 (x.val : Int))).setIfInBounds 71 (.agg (edL U x.val).toArray)).setIfInBounds 10 (.int .i64 (x.val : Int))).setIfInBounds 11 (.pointer (some ⟨b, 0, none⟩)))
            (fun _ W => Below w1.heap.size w1 W) (fun _ _ _ => False) (ownFrom_below (Nat.le_refl _) (Nat.le_refl _)) (fun _ _ _ _ _ h _ _ => h.elim) (Below.refl _ _) ?assign (fun _ _ _ h k => blw_trans h k.out) (fun _ _ h => h.size) ?body ?done ?stop
          case assign =>
            intro l pre x W K hI hK
            simp only [encE, edL, List.zip_toArray, List.zip_cons_cons, List.zip_nil_right, List.foldl_toArray, List.foldl_cons, List.foldl_nil, List.setIfInBounds_toArray, List.set_cons_zero, List.set_cons_succ]
            simp only [edL, List.setIfInBounds_toArray, List.set_cons_zero, List.set_cons_succ] at hK
            gi_wp2
            refine hK _ _ rfl ?_ ?_
            · infer_instance
            · exact Bx.re rfl
          case body =>
            intro l pre x b W hI hb hx hlt9
            have kw1 := Kp1.mk hI
            obtain ⟨m, hm0⟩ : ∃ m, (x.val + 1) % U.length = m := ⟨_, rfl⟩
            have lq : LtN x.val U.length := ⟨x.isLt⟩
            have lm : LtN m U.length := ⟨by rw [← hm0]; exact Nat.mod_lt _ (by omega)⟩
            have hv : Hid (decide (((pg L x.val).1, (pg L x.val).2) = ((pg L m).1, (pg L m).2)) = false) := Lib.hid (by
              have := HR.out.edge x.val (by rw [← hUl.out]; exact x.isLt)
              rw [← hUl.out, hm0] at this
              exact decide_eq_false (show ¬ _ from this))
            dsimp only [edL] at hx ⊢
            rw [hm0] at hx ⊢
            simp only [List.setIfInBounds_toArray, List.set_cons_zero, List.set_cons_succ]
            gi_wp2_with (first
              | (refine ⟨trivial, ?_⟩; gi_at_call 108; (refine inR ?_); (with_reducible refine Calls.cE (ptEqualV (by omega) hv) ?_); intros))
            exact ⟨keepsK inferInstance, (inferInstance : Kp W _).out.mono hI.size, blw_trans hI (inferInstance : Kp W _).out⟩
          case done =>
            intro D W hD hI hK
            have kw1 := Kp1.mk hI
            have gd : Ge w D := ⟨Nat.le_trans (inferInstance : Kp w w1).out.size hD⟩
            have g0 : w.heap.size + 1 < D := Nat.lt_of_lt_of_le (i4.lt) (Nat.le_trans (Nat.le_trans j1.out.size (inferInstance : Kp wr w1).out.size) hD)
            go_wp2
            refine retM_mark (D := D) rfl (def_set (def_set hK (by omega)) (by omega)) ?_
            have kd : Dp1 ((W.setCell ⟨w.heap.size, 0, none⟩ (.slice (some ⟨g2, 0, none⟩) U.length c3)).setCell ⟨w.heap.size + 1, 0, none⟩ .nilIface) _ D := ⟨rfl, _, def_set (def_set hK (by omega)) (by omega)⟩
            refine ret_se rfl Tryz.underlying131 rfl Tryz.underlying36 rfl rfl rfl rfl ?_
            exact PsFEr.fin (V := U) rfl (Nat.le_refl _)
          case stop => exact fun _ _ _ _ _ _ h _ => h.elim
end Go.Proofs.YtdlnoeegboapkaaGreatDoor
