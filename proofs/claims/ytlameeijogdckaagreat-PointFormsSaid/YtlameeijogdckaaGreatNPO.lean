/-
  Texts of this claim, joined: Nrm, Pf, Open.
-/
import Derived.Test.YtlameeijogdckaaGreatNumQ
import Derived.Test.YtlameeijogdckaaGreatSmall
import Derived.Test.YtlameeijogdckaaGreatOT
import Derived.OpenShut
import Derived.ProofKit
import Derived.ChangeSame
/- Normal forms of numbers that came in as arguments: the digits are any digits. Package frac and the reference decide alike. printed by a small program (mknrm.py). -/
namespace Go.Proofs.YtlameeijogdckaaGreat
open Go.RowKit

/-- The slice v reads as the digits l. -/
class RL (W : World) (v : Value) (l : outParam (List Nat)) : Prop where out : Rd W v l
instance RL.al {W : World} {v : Value} {l : (List Nat)} {o : Obj} [h : RL W v l] : RL (W.alloc o) v l := ⟨h.out.keep (blw_one _ _)⟩
instance RL.dr {W : World} {v : Value} {l : (List Nat)} [h : RL W v l] : RL W.drew v l := ⟨h.out.keep (blw_drew (Below.refl _ _))⟩
instance RL.drN {W : World} {v : Value} {l : (List Nat)} {j : Nat} [h : RL W v l] : RL (W.drewN j) v l := ⟨h.out.keep (blw_drewN (Below.refl _ _) _)⟩
instance RL.kp {W W2 : World} {v : Value} {l : (List Nat)} [b : Kp1 W W2] [h : RL W v l] : RL W2 v l := ⟨h.out.keep (b.out)⟩
instance RL.tp {W W2 : World} {v : Value} {l : (List Nat)} {g : Nat} [b : Tp1 W W2 g] [h : RL W v l] : RL W2 v l := ⟨h.out.tp b.tp b.gb⟩
instance RL.st {W : World} {v : Value} {l : (List Nat)} {qb ib : Nat} {xv : Value} [b : SoftB W qb] [h : RL W v l] : RL (W.setCell ⟨qb, ib, none⟩ xv) v l := ⟨h.out.soft b⟩
instance (priority := low) CR.ofL {W : World} {v : Value} {l : List Nat} [h : RL W v l] : CR W v (val l) l.length := ⟨.of_rd h.out (Nat.le_refl _)⟩
theorem RL.len {W : World} {a : Option Addr} {n c : Nat} {l : List Nat} (h : RL W (.slice a n c) l) : n = l.length := h.out.len
theorem rl_row {w : World} {a : Option Addr} {len cap : Nat} {zs : List Int} (h : IsRow .u32 w a len cap zs) : ∃ l, l.length = len ∧ RL w (.slice a len cap) l := by
  obtain ⟨l, h1, h2⟩ := rd_of_row h
  exact ⟨l, h1, ⟨h2⟩⟩
theorem normalB_nfx (n : Nat) : normalB (nf n) = true := by
  by_cases h : n = 0
  · subst h; rfl
  · exact normalB_ne (nf_last n h)
theorem normalB_iff {l : List Nat} (hl : Dig l) : normalB l = true ↔ l = nf (val l) := by
  constructor
  · intro h
    refine (nf_of_normal hl ?_).symm
    simp only [normalB, Bool.or_eq_true, decide_eq_true_eq] at h
    rcases h with h | h
    · left; exact List.eq_nil_of_length_eq_zero h
    · right; exact h
  · intro h; rw [h]; exact normalB_nfx _
/-- The integer with sign g and digits l is in normal form. -/
def nrmI (g : Bool) (l : List Nat) : Bool := normalB l && (!g || decide (0 < l.length))
def nrmQ (g : Bool) (l ll : List Nat) : Bool := nrmI g l && normalB ll && decide (0 < ll.length) && decide (Nat.gcd (val l) (val ll) = 1)
def sameP (g : Bool) (l ll : List Nat) (x : Rat) : Bool := (decide (g = decide (x.num < 0)) && sameB l (nf x.num.natAbs)) && sameB ll (nf x.den)
def refB (g : Bool) (l ll : List Nat) (x : Rat) : Bool := sameP g l ll x && decide (0 < ll.length)
theorem nrm_ref {g : Bool} {l ll : List Nat} (hl : Dig l) (hll : Dig ll) : refB g l ll (mkRat (sgn g (val l)) (val ll)) = nrmQ g l ll := by
  rw [Bool.eq_iff_iff]
  simp only [refB, sameP, nrmQ, nrmI, sameB, Bool.and_eq_true, Bool.or_eq_true, decide_eq_true_eq, Bool.not_eq_true', normalB_iff hl, normalB_iff hll]
  generalize hx : mkRat (sgn g (val l)) (val ll) = x
  constructor
  · rintro ⟨⟨⟨h1, h2⟩, h3⟩, h4⟩
    have e2 : val l = x.num.natAbs := by rw [h2, val_nf]
    have e3 : val ll = x.den := by rw [h3, val_nf]
    refine ⟨⟨⟨⟨by rw [e2]; exact h2, ?_⟩, by rw [e3]; exact h3⟩, h4⟩, by rw [e2, e3]; exact x.reduced⟩
    cases g with
    | false => left; rfl
    | true =>
      right
      have hn : x.num < 0 := by simpa using h1.symm
      rw [h2]
      exact nf_len_pos (by omega)
  · rintro ⟨⟨⟨⟨h1, h2⟩, h3⟩, h4⟩, h5⟩
    have hz : val ll ≠ 0 := by
      intro e
      rw [e] at h3
      rw [h3] at h4
      simp [nf_zero] at h4
    by_cases h0 : val l = 0
    · have e1 : l = [] := by rw [h1, h0]; rfl
      have hg : g = false := by
        rcases h2 with h2 | h2
        · exact h2
        · rw [e1] at h2; simp at h2
      have e2 : val ll = 1 := by rw [h0, Nat.gcd_zero_left] at h5; exact h5
      have ex : x = 0 := by rw [← hx, h0, hg, sgn_false]; exact Rat.zero_mkRat _
      rw [ex]
      refine ⟨⟨⟨by rw [hg]; decide +kernel, by rw [e1]; rfl⟩, ?_⟩, h4⟩
      rw [h3, e2]; rfl
    · obtain ⟨q1, q2, _⟩ := sgn_mk (g := g) hz h0
      rw [hx, h5, Nat.div_one] at q1 q2
      refine ⟨⟨⟨?_, by rw [q1, sgn_abs]; exact h1⟩, by rw [q2]; exact h3⟩, h4⟩
      rw [q1]
      cases g with
      | false => simp [sgn]
      | true => simp [sgn]; omega
theorem natNormalLV {w : World} {a1 : Option Addr} {l1 c1 : Nat} {L : List Nat} {v : Bool} [h1 : RL w (.slice a1 l1 c1) L] (hv : Hid (normalB L = v)) :
    Calls Tryz.prog 200 #[.slice a1 l1 c1] w fun e w' => e = .returned (.bool v) ∧ w = w' := by
  rw [← hv.out]
  exact normal_any _ _ _ h1.out
theorem sameNL {w : World} {a1 a2 : Option Addr} {l1 c1 l2 c2 n k2 : Nat} {L : List Nat} [h1 : RL w (.slice a1 l1 c1) L] [h2 : CN w (.slice a2 l2 c2) n k2] :
    Calls Tryz.prog 131 #[.slice a1 l1 c1, .slice a2 l2 c2] w fun e w' => e = .returned (.bool (sameB L (nf n))) ∧ Below w.heap.size w w' := sameN_any _ _ _ _ _ h1.out h2.out.1
theorem natNormalL {w : World} {a1 : Option Addr} {l1 c1 : Nat} {L : List Nat} [h1 : RL w (.slice a1 l1 c1) L] :
    Calls Tryz.prog 200 #[.slice a1 l1 c1] w fun e w' => e = .returned (.bool (normalB L)) ∧ w = w' := normal_any _ _ _ h1.out
set_option maxRecDepth 100000 in
set_option maxHeartbeats 4000000 in
set_option synthInstance.maxSize 100000 in
set_option synthInstance.maxHeartbeats 1000000 in
theorem sameIL {w : World} {g1 g2 v : Bool} {a1 a2 : Option Addr} {l1 c1 l2 c2 k2 : Nat} {L : List Nat} {x : Int} [h1 : RL w (.slice a1 l1 c1) L] [h2 : CZ w (.agg #[.bool g2, .slice a2 l2 c2]) x k2] (hv : Hid ((decide (g1 = decide (x < 0)) && sameB L (nf x.natAbs)) = v)) :
    Calls Tryz.prog 104 #[.agg #[.bool g1, .slice a1 l1 c1], .agg #[.bool g2, .slice a2 l2 c2]] w fun e w' => e = .returned (.bool v) ∧ Below w.heap.size w w' := by
  have e2 := (zz_of h2).1
  have i2 : CN w (.slice a2 l2 c2) x.natAbs k2 := ⟨(zz_of h2).2⟩
  have HV := Lib.hid hv.out
  clear h2 hv
  rw [← e2] at HV
  clear e2
  cases g1 <;> cases g2
  · go_enter Tryz.func104, Tryz.ntmps104
    go_wp2_with (first
    | (go_at_call 131; (with_reducible refine Calls.cE (sameNL) ?_); intros))
    go_ret
    exact E.fin (by rw [← HV.out]; rfl)
  · go_enter Tryz.func104, Tryz.ntmps104
    go_wp2_with fail
    go_ret
    exact E.fin (by rw [← HV.out]; rfl)
  · go_enter Tryz.func104, Tryz.ntmps104
    go_wp2_with fail
    go_ret
    exact E.fin (by rw [← HV.out]; rfl)
  · go_enter Tryz.func104, Tryz.ntmps104
    go_wp2_with (first
    | (go_at_call 131; (with_reducible refine Calls.cE (sameNL) ?_); intros))
    go_ret
    exact E.fin (by rw [← HV.out]; rfl)
set_option maxRecDepth 100000 in
set_option maxHeartbeats 4000000 in
set_option synthInstance.maxSize 100000 in
set_option synthInstance.maxHeartbeats 1000000 in
theorem sameQL {w : World} {g1 g2 v : Bool} {a1 a2 aa1 aa2 : Option Addr} {l1 c1 l2 c2 ll1 cc1 ll2 cc2 k2 : Nat} {L LL : List Nat} {x : Rat} [h1 : RL w (.slice a1 l1 c1) L] [h1' : RL w (.slice aa1 ll1 cc1) LL] [h2 : CA w (.agg #[.bool g2, .slice a2 l2 c2, .slice aa2 ll2 cc2]) x k2] (hv : Hid (sameP g1 L LL x = v)) :
    Calls Tryz.prog 57 #[.agg #[.bool g1, .slice a1 l1 c1, .slice aa1 ll1 cc1], .agg #[.bool g2, .slice a2 l2 c2, .slice aa2 ll2 cc2]] w fun e w' => e = .returned (.bool v) ∧ Below w.heap.size w w' := by
  have i1 := h2.num
  have i2 := h2.den
  obtain ⟨b, hb⟩ : ∃ b, (decide (g1 = decide (x.num < 0)) && sameB L (nf x.num.natAbs)) = b := ⟨_, rfl⟩
  have HB := Lib.hid hb
  have HV : Hid ((b && sameB LL (nf x.den)) = v) := by show _ = _; rw [← hb]; exact hv.out
  clear hb hv
  cases b
  all_goals
    go_enter Tryz.func57, Tryz.ntmps57
    go_wp2_with (first
    | (go_at_call 104; (with_reducible refine Calls.cE (sameIL HB) ?_); intros)
    | (go_at_call 131; (with_reducible refine Calls.cE (sameNL) ?_); intros))
    go_ret
    exact E.fin (by rw [← HV.out]; rfl)
set_option maxRecDepth 100000 in
set_option maxHeartbeats 4000000 in
set_option synthInstance.maxSize 100000 in
set_option synthInstance.maxHeartbeats 1000000 in
theorem intNormalL {w : World} {g1 v : Bool} {a1 : Option Addr} {l1 c1 : Nat} {L : List Nat} [h1 : RL w (.slice a1 l1 c1) L] (hv : Hid (nrmI g1 L = v)) :
    Calls Tryz.prog 197 #[.agg #[.bool g1, .slice a1 l1 c1]] w fun e w' => e = .returned (.bool v) ∧ Below w.heap.size w w' := by
  have hl := h1.len
  have HV : Hid ((normalB L && (!g1 || decide (0 < l1))) = v) := by show _ = _; rw [hl]; exact hv.out
  clear hv hl
  obtain ⟨b, hb⟩ : ∃ b, normalB L = b := ⟨_, rfl⟩
  rw [hb] at HV
  have HB := Lib.hid hb
  clear hb
  by_cases hp : 0 < l1
  · have hp2 : decide (0 < l1) = true := decide_eq_true hp
    rw [hp2] at HV
    cases b <;> cases g1
    all_goals
      go_enter Tryz.func197, Tryz.ntmps197
      go_wp2_with (first
    | (go_at_call 200; (with_reducible refine Calls.cS (natNormalLV HB) ?_); intros))
      go_ret
      exact E.fin (by rw [← HV.out]; rfl)
  · have hp2 : decide (0 < l1) = false := decide_eq_false hp
    obtain rfl : l1 = 0 := by omega
    clear hp
    rw [hp2] at HV
    cases b <;> cases g1
    all_goals
      go_enter Tryz.func197, Tryz.ntmps197
      go_wp2_with (first
    | (go_at_call 200; (with_reducible refine Calls.cS (natNormalLV HB) ?_); intros))
      go_ret
      exact E.fin (by rw [← HV.out]; rfl)
set_option maxRecDepth 100000 in
set_option maxHeartbeats 4000000 in
set_option synthInstance.maxSize 100000 in
set_option synthInstance.maxHeartbeats 1000000 in
theorem fracNormalL {w : World} {g1 v : Bool} {a1 aa1 : Option Addr} {l1 c1 ll1 cc1 : Nat} {L LL : List Nat} [h1 : RL w (.slice a1 l1 c1) L] [h1' : RL w (.slice aa1 ll1 cc1) LL] (b1 : L.length ≤ 900000 ∧ LL.length ≤ 900000) (hv : Hid (nrmQ g1 L LL = v)) :
    Calls Tryz.prog 170 #[.agg #[.bool g1, .slice a1 l1 c1, .slice aa1 ll1 cc1]] w fun e w' => e = .returned (.bool v) ∧ Below w.heap.size w w' := by
  have hl := h1'.len
  have HV : Hid ((nrmI g1 L && normalB LL && decide (0 < ll1) && decide (Nat.gcd (val L) (val LL) = 1)) = v) := by show _ = _; rw [hl]; exact hv.out
  clear hv
  obtain ⟨b, hb⟩ : ∃ b, nrmI g1 L = b := ⟨_, rfl⟩
  obtain ⟨c, hc⟩ : ∃ c, normalB LL = c := ⟨_, rfl⟩
  rw [hb, hc] at HV
  have HB := Lib.hid hb
  have HC := Lib.hid hc
  have hg0 : val LL ≠ 0 → Nat.gcd (val L) (val LL) ≠ 0 := fun h e => h (Nat.eq_zero_of_gcd_eq_zero_right e)
  have hz : c = true → 0 < ll1 → val LL ≠ 0 := fun h1 h2 e => by
    rw [h1] at hc
    have := (normalB_iff h1'.out.dig).1 hc
    rw [e] at this
    rw [hl, this] at h2
    simp [nf_zero] at h2
  clear hb hc hl
  cases b
  · go_enter Tryz.func170, Tryz.ntmps170
    go_wp2_with (first
    | (go_at_call 197; (with_reducible refine Calls.cE (intNormalL HB) ?_); intros)
    | (go_at_call 200; (with_reducible refine Calls.cS (natNormalLV HC) ?_); intros)
    | (go_at_call 202; (with_reducible refine Calls.cN (gcdC (by omega)) ?_); intros)
    | (go_at_call 201; (with_reducible refine Calls.cS (bitsC (by omega)) ?_); intros))
    go_ret
    exact E.fin (by rw [← HV.out]; rfl)
  cases c
  · go_enter Tryz.func170, Tryz.ntmps170
    go_wp2_with (first
    | (go_at_call 197; (with_reducible refine Calls.cE (intNormalL HB) ?_); intros)
    | (go_at_call 200; (with_reducible refine Calls.cS (natNormalLV HC) ?_); intros)
    | (go_at_call 202; (with_reducible refine Calls.cN (gcdC (by omega)) ?_); intros)
    | (go_at_call 201; (with_reducible refine Calls.cS (bitsC (by omega)) ?_); intros))
    go_ret
    exact E.fin (by rw [← HV.out]; rfl)
  by_cases hp : 0 < ll1
  · have hgz := hg0 (hz rfl hp)
    rw [show decide (0 < ll1) = true from decide_eq_true hp] at HV
    clear hg0 hz
    by_cases hg : Nat.gcd (val L) (val LL) = 1
    · rw [show decide (Nat.gcd (val L) (val LL) = 1) = true from decide_eq_true hg] at HV
      have hn : (((nbits (Nat.gcd (val L) (val LL)) : Nat) : Int) == 1) = true := by rw [hg]; decide +kernel
      clear hg hgz
      go_enter Tryz.func170, Tryz.ntmps170
      go_wp2_with (first
    | (go_at_call 197; (with_reducible refine Calls.cE (intNormalL HB) ?_); intros)
    | (go_at_call 200; (with_reducible refine Calls.cS (natNormalLV HC) ?_); intros)
    | (go_at_call 202; (with_reducible refine Calls.cN (gcdC (by omega)) ?_); intros)
    | (go_at_call 201; (with_reducible refine Calls.cS (bitsC (by omega)) ?_); intros))
      go_ret
      exact E.fin (by rw [← HV.out]; rfl)
    · rw [show decide (Nat.gcd (val L) (val LL) = 1) = false from decide_eq_false hg] at HV
      have hn : (((nbits (Nat.gcd (val L) (val LL)) : Nat) : Int) == 1) = false := by
        rw [beq_eq_false_iff_ne]
        have := @nbits1 (Nat.gcd (val L) (val LL))
        omega
      clear hg hgz
      go_enter Tryz.func170, Tryz.ntmps170
      go_wp2_with (first
    | (go_at_call 197; (with_reducible refine Calls.cE (intNormalL HB) ?_); intros)
    | (go_at_call 200; (with_reducible refine Calls.cS (natNormalLV HC) ?_); intros)
    | (go_at_call 202; (with_reducible refine Calls.cN (gcdC (by omega)) ?_); intros)
    | (go_at_call 201; (with_reducible refine Calls.cS (bitsC (by omega)) ?_); intros))
      go_ret
      exact E.fin (by rw [← HV.out]; rfl)
  · rw [show decide (0 < ll1) = false from decide_eq_false hp] at HV
    obtain rfl : ll1 = 0 := by omega
    clear hp hg0 hz
    go_enter Tryz.func170, Tryz.ntmps170
    go_wp2_with (first
    | (go_at_call 197; (with_reducible refine Calls.cE (intNormalL HB) ?_); intros)
    | (go_at_call 200; (with_reducible refine Calls.cS (natNormalLV HC) ?_); intros)
    | (go_at_call 202; (with_reducible refine Calls.cN (gcdC (by omega)) ?_); intros)
    | (go_at_call 201; (with_reducible refine Calls.cS (bitsC (by omega)) ?_); intros))
    go_ret
    exact E.fin (by rw [← HV.out]; rfl)
set_option maxRecDepth 100000 in
set_option maxHeartbeats 4000000 in
set_option synthInstance.maxSize 100000 in
set_option synthInstance.maxHeartbeats 1000000 in
theorem normalQL {w : World} {g1 v : Bool} {a1 aa1 : Option Addr} {l1 c1 ll1 cc1 : Nat} {L LL : List Nat} [h1 : RL w (.slice a1 l1 c1) L] [h1' : RL w (.slice aa1 ll1 cc1) LL] (b1 : L.length ≤ 40000 ∧ LL.length ≤ 40000) (hv : Hid (nrmQ g1 L LL = v)) :
    Calls Tryz.prog 92 #[.agg #[.bool g1, .slice a1 l1 c1, .slice aa1 ll1 cc1]] w fun e w' => e = .returned (.bool v) ∧ Below w.heap.size w w' := by
  have HV : Hid ((sameP g1 L LL (mkRat (sgn g1 (val L)) (val LL)) && decide (0 < ll1)) = v) := by
    show _ = _
    rw [← hv.out, ← nrm_ref h1.out.dig h1'.out.dig, h1'.len]
    rfl
  clear hv
  obtain ⟨b, hb⟩ : ∃ b, sameP g1 L LL (mkRat (sgn g1 (val L)) (val LL)) = b := ⟨_, rfl⟩
  rw [hb] at HV
  have HB := Lib.hid hb
  clear hb
  by_cases hp : 0 < ll1
  · rw [show decide (0 < ll1) = true from decide_eq_true hp] at HV
    cases b
    · go_enter Tryz.func92, Tryz.ntmps92
      go_wp2_with fail
      refine region_cls (by kernel_rfl) [] (fun hHeld => ?_)
      refine wpAnyH_take (i := 0) (v := ?z118) (by simp; rfl) (by kernel_rfl) (by kernel_rfl) (by kernel_rfl) (by exact fun _ _ _ h => h) (Or.inl ⟨by rfl, ?yz118⟩) hHeld ?_
      case yz118 => (intro wx hSw; have hSx := Ex1.mk hSw; go_simp; (try with_reducible rfl))
      try simp only [Act.put, List.setIfInBounds_toArray, List.set_cons_zero, List.set_cons_succ]
      refine wpAnyH_take (i := 1) (v := ?z119) (by simp; rfl) (by kernel_rfl) (by kernel_rfl) (by kernel_rfl) (by exact fun _ _ _ h => h) (Or.inl ⟨by rfl, ?yz119⟩) hHeld ?_
      case yz119 => (intro wx hSw; have hSx := Ex1.mk hSw; go_simp; (try with_reducible rfl))
      try simp only [Act.put, List.setIfInBounds_toArray, List.set_cons_zero, List.set_cons_succ]
      refine wpAnyH_ready (rs := [2]) (by kernel_rfl) (by simp) ?_
      refine AllReadyH.cons (by simp; rfl) (fun K hK => ?_) AllReadyH.nil
      go_simp
      (go_at_call 43; (with_reducible refine Calls.cQ (refQC (by omega)) ?_); intros)
      refine hK.out _ _ inferInstance ?_
      clear hHeld hK K
      intro hHeld
      try simp only [Act.put, List.setIfInBounds_toArray, List.set_cons_zero, List.set_cons_succ]
      refine wpAnyH_ready (rs := [3]) (by kernel_rfl) (by simp) ?_
      refine AllReadyH.cons (by simp; rfl) (fun K hK => ?_) AllReadyH.nil
      go_simp
      (go_at_call 38; (with_reducible refine Calls.cA (toQC (by omega)) ?_); intros)
      refine hK.out _ _ inferInstance ?_
      clear hHeld hK K
      intro hHeld
      try simp only [Act.put, List.setIfInBounds_toArray, List.set_cons_zero, List.set_cons_succ]
      refine wpAnyH_ready (rs := [4]) (by kernel_rfl) (by simp) ?_
      refine AllReadyH.cons (by simp; rfl) (fun K hK => ?_) AllReadyH.nil
      go_simp
      (go_at_call 57; (with_reducible refine Calls.cE (sameQL HB) ?_); intros)
      refine hK.out _ _ inferInstance ?_
      clear hHeld hK K
      intro hHeld
      try simp only [Act.put, List.setIfInBounds_toArray, List.set_cons_zero, List.set_cons_succ]
      refine wpAnyH_take (i := 5) (v := ?z120) (by simp; rfl) (by kernel_rfl) (by kernel_rfl) (by kernel_rfl) (by exact fun _ _ _ h => h) (Or.inl ⟨by rfl, ?yz120⟩) hHeld ?_
      case yz120 => (intro wx hSw; have hSx := Ex1.mk hSw; go_simp; (try with_reducible rfl))
      try simp only [Act.put, List.setIfInBounds_toArray, List.set_cons_zero, List.set_cons_succ]
      refine wpAnyH_take (i := 6) (v := undef) (by simp; rfl) (by kernel_rfl) (by kernel_rfl) (by kernel_rfl) (by exact fun _ _ _ h => h) (Or.inr ⟨by rfl, rfl⟩) hHeld ?_
      try simp only [Act.put, List.setIfInBounds_toArray, List.set_cons_zero, List.set_cons_succ]
      refine wpAnyH_take (i := 7) (v := undef) (by simp; rfl) (by kernel_rfl) (by kernel_rfl) (by kernel_rfl) (by exact fun _ _ _ h => h) (Or.inr ⟨by rfl, rfl⟩) hHeld ?_
      try simp only [Act.put, List.setIfInBounds_toArray, List.set_cons_zero, List.set_cons_succ]
      refine wpAnyH_take (i := 8) (v := undef) (by simp; rfl) (by kernel_rfl) (by kernel_rfl) (by kernel_rfl) (by exact fun _ _ _ h => h) (Or.inr ⟨by rfl, rfl⟩) hHeld ?_
      try simp only [Act.put, List.setIfInBounds_toArray, List.set_cons_zero, List.set_cons_succ]
      refine wpAnyH_take (i := 9) (v := undef) (by simp; rfl) (by kernel_rfl) (by kernel_rfl) (by kernel_rfl) (by exact fun _ _ _ h => h) (Or.inr ⟨by rfl, rfl⟩) hHeld ?_
      try simp only [Act.put, List.setIfInBounds_toArray, List.set_cons_zero, List.set_cons_succ]
      refine wpAnyH_take (i := 10) (v := ?z125) (by simp; rfl) (by kernel_rfl) (by kernel_rfl) (by kernel_rfl) (by exact fun _ _ _ h => h) (Or.inl ⟨by rfl, ?yz125⟩) hHeld ?_
      case yz125 => (intro wx hSw; have hSx := Ex1.mk hSw; go_simp; (try with_reducible rfl))
      try simp only [Act.put, List.setIfInBounds_toArray, List.set_cons_zero, List.set_cons_succ]
      refine wpAnyH_take (i := 11) (v := ?z126) (by simp; rfl) (by kernel_rfl) (by kernel_rfl) (by kernel_rfl) (by exact fun _ _ _ h => h) (Or.inl ⟨by rfl, ?yz126⟩) hHeld ?_
      case yz126 => (intro wx hSw; have hSx := Ex1.mk hSw; go_simp; (try with_reducible rfl))
      try simp only [Act.put, List.setIfInBounds_toArray, List.set_cons_zero, List.set_cons_succ]
      refine wpAnyH_done (by kernel_rfl) ?_ _
      clear hHeld
      go_wp2
      go_ret
      exact E.fin (by rw [← HV.out]; rfl)
    · go_enter Tryz.func92, Tryz.ntmps92
      go_wp2_with fail
      refine region_cls (by kernel_rfl) [] (fun hHeld => ?_)
      refine wpAnyH_take (i := 0) (v := ?z136) (by simp; rfl) (by kernel_rfl) (by kernel_rfl) (by kernel_rfl) (by exact fun _ _ _ h => h) (Or.inl ⟨by rfl, ?yz136⟩) hHeld ?_
      case yz136 => (intro wx hSw; have hSx := Ex1.mk hSw; go_simp; (try with_reducible rfl))
      try simp only [Act.put, List.setIfInBounds_toArray, List.set_cons_zero, List.set_cons_succ]
      refine wpAnyH_take (i := 1) (v := ?z137) (by simp; rfl) (by kernel_rfl) (by kernel_rfl) (by kernel_rfl) (by exact fun _ _ _ h => h) (Or.inl ⟨by rfl, ?yz137⟩) hHeld ?_
      case yz137 => (intro wx hSw; have hSx := Ex1.mk hSw; go_simp; (try with_reducible rfl))
      try simp only [Act.put, List.setIfInBounds_toArray, List.set_cons_zero, List.set_cons_succ]
      refine wpAnyH_ready (rs := [2]) (by kernel_rfl) (by simp) ?_
      refine AllReadyH.cons (by simp; rfl) (fun K hK => ?_) AllReadyH.nil
      go_simp
      (go_at_call 43; (with_reducible refine Calls.cQ (refQC (by omega)) ?_); intros)
      refine hK.out _ _ inferInstance ?_
      clear hHeld hK K
      intro hHeld
      try simp only [Act.put, List.setIfInBounds_toArray, List.set_cons_zero, List.set_cons_succ]
      refine wpAnyH_ready (rs := [3]) (by kernel_rfl) (by simp) ?_
      refine AllReadyH.cons (by simp; rfl) (fun K hK => ?_) AllReadyH.nil
      go_simp
      (go_at_call 38; (with_reducible refine Calls.cA (toQC (by omega)) ?_); intros)
      refine hK.out _ _ inferInstance ?_
      clear hHeld hK K
      intro hHeld
      try simp only [Act.put, List.setIfInBounds_toArray, List.set_cons_zero, List.set_cons_succ]
      refine wpAnyH_ready (rs := [4]) (by kernel_rfl) (by simp) ?_
      refine AllReadyH.cons (by simp; rfl) (fun K hK => ?_) AllReadyH.nil
      go_simp
      (go_at_call 57; (with_reducible refine Calls.cE (sameQL HB) ?_); intros)
      refine hK.out _ _ inferInstance ?_
      clear hHeld hK K
      intro hHeld
      try simp only [Act.put, List.setIfInBounds_toArray, List.set_cons_zero, List.set_cons_succ]
      refine wpAnyH_take (i := 5) (v := ?z138) (by simp; rfl) (by kernel_rfl) (by kernel_rfl) (by kernel_rfl) (by exact fun _ _ _ h => h) (Or.inl ⟨by rfl, ?yz138⟩) hHeld ?_
      case yz138 => (intro wx hSw; have hSx := Ex1.mk hSw; go_simp; (try with_reducible rfl))
      try simp only [Act.put, List.setIfInBounds_toArray, List.set_cons_zero, List.set_cons_succ]
      refine wpAnyH_take (i := 6) (v := ?z139) (by simp; rfl) (by kernel_rfl) (by kernel_rfl) (by kernel_rfl) (by exact fun _ _ _ h => h) (Or.inl ⟨by rfl, ?yz139⟩) hHeld ?_
      case yz139 => (intro wx hSw; have hSx := Ex1.mk hSw; go_simp; (try with_reducible rfl))
      try simp only [Act.put, List.setIfInBounds_toArray, List.set_cons_zero, List.set_cons_succ]
      refine wpAnyH_take (i := 7) (v := ?z140) (by simp; rfl) (by kernel_rfl) (by kernel_rfl) (by kernel_rfl) (by exact fun _ _ _ h => h) (Or.inl ⟨by rfl, ?yz140⟩) hHeld ?_
      case yz140 => (intro wx hSw; have hSx := Ex1.mk hSw; go_simp; (try with_reducible rfl))
      try simp only [Act.put, List.setIfInBounds_toArray, List.set_cons_zero, List.set_cons_succ]
      refine wpAnyH_take (i := 8) (v := ?z141) (by simp; rfl) (by kernel_rfl) (by kernel_rfl) (by kernel_rfl) (by exact fun _ _ _ h => h) (Or.inl ⟨by rfl, ?yz141⟩) hHeld ?_
      case yz141 => (intro wx hSw; have hSx := Ex1.mk hSw; go_simp; (try with_reducible rfl))
      try simp only [Act.put, List.setIfInBounds_toArray, List.set_cons_zero, List.set_cons_succ]
      refine wpAnyH_take (i := 9) (v := ?z142) (by simp; rfl) (by kernel_rfl) (by kernel_rfl) (by kernel_rfl) (by exact fun _ _ _ h => h) (Or.inl ⟨by rfl, ?yz142⟩) hHeld ?_
      case yz142 => (intro wx hSw; have hSx := Ex1.mk hSw; go_simp; (try with_reducible rfl))
      try simp only [Act.put, List.setIfInBounds_toArray, List.set_cons_zero, List.set_cons_succ]
      refine wpAnyH_take (i := 10) (v := ?z143) (by simp; rfl) (by kernel_rfl) (by kernel_rfl) (by kernel_rfl) (by exact fun _ _ _ h => h) (Or.inl ⟨by rfl, ?yz143⟩) hHeld ?_
      case yz143 => (intro wx hSw; have hSx := Ex1.mk hSw; go_simp; (try with_reducible rfl))
      try simp only [Act.put, List.setIfInBounds_toArray, List.set_cons_zero, List.set_cons_succ]
      refine wpAnyH_take (i := 11) (v := ?z144) (by simp; rfl) (by kernel_rfl) (by kernel_rfl) (by kernel_rfl) (by exact fun _ _ _ h => h) (Or.inl ⟨by rfl, ?yz144⟩) hHeld ?_
      case yz144 => (intro wx hSw; have hSx := Ex1.mk hSw; go_simp; (try with_reducible rfl))
      try simp only [Act.put, List.setIfInBounds_toArray, List.set_cons_zero, List.set_cons_succ]
      refine wpAnyH_done (by kernel_rfl) ?_ _
      clear hHeld
      go_wp2
      go_ret
      exact E.fin (by rw [← HV.out]; rfl)
  · rw [show decide (0 < ll1) = false from decide_eq_false hp] at HV
    obtain rfl : ll1 = 0 := by omega
    clear hp
    cases b
    · go_enter Tryz.func92, Tryz.ntmps92
      go_wp2_with fail
      refine region_cls (by kernel_rfl) [] (fun hHeld => ?_)
      refine wpAnyH_take (i := 0) (v := ?z127) (by simp; rfl) (by kernel_rfl) (by kernel_rfl) (by kernel_rfl) (by exact fun _ _ _ h => h) (Or.inl ⟨by rfl, ?yz127⟩) hHeld ?_
      case yz127 => (intro wx hSw; have hSx := Ex1.mk hSw; go_simp; (try with_reducible rfl))
      try simp only [Act.put, List.setIfInBounds_toArray, List.set_cons_zero, List.set_cons_succ]
      refine wpAnyH_take (i := 1) (v := ?z128) (by simp; rfl) (by kernel_rfl) (by kernel_rfl) (by kernel_rfl) (by exact fun _ _ _ h => h) (Or.inl ⟨by rfl, ?yz128⟩) hHeld ?_
      case yz128 => (intro wx hSw; have hSx := Ex1.mk hSw; go_simp; (try with_reducible rfl))
      try simp only [Act.put, List.setIfInBounds_toArray, List.set_cons_zero, List.set_cons_succ]
      refine wpAnyH_ready (rs := [2]) (by kernel_rfl) (by simp) ?_
      refine AllReadyH.cons (by simp; rfl) (fun K hK => ?_) AllReadyH.nil
      go_simp
      (go_at_call 43; (with_reducible refine Calls.cQ (refQC (by omega)) ?_); intros)
      refine hK.out _ _ inferInstance ?_
      clear hHeld hK K
      intro hHeld
      try simp only [Act.put, List.setIfInBounds_toArray, List.set_cons_zero, List.set_cons_succ]
      refine wpAnyH_ready (rs := [3]) (by kernel_rfl) (by simp) ?_
      refine AllReadyH.cons (by simp; rfl) (fun K hK => ?_) AllReadyH.nil
      go_simp
      (go_at_call 38; (with_reducible refine Calls.cA (toQC (by omega)) ?_); intros)
      refine hK.out _ _ inferInstance ?_
      clear hHeld hK K
      intro hHeld
      try simp only [Act.put, List.setIfInBounds_toArray, List.set_cons_zero, List.set_cons_succ]
      refine wpAnyH_ready (rs := [4]) (by kernel_rfl) (by simp) ?_
      refine AllReadyH.cons (by simp; rfl) (fun K hK => ?_) AllReadyH.nil
      go_simp
      (go_at_call 57; (with_reducible refine Calls.cE (sameQL HB) ?_); intros)
      refine hK.out _ _ inferInstance ?_
      clear hHeld hK K
      intro hHeld
      try simp only [Act.put, List.setIfInBounds_toArray, List.set_cons_zero, List.set_cons_succ]
      refine wpAnyH_take (i := 5) (v := ?z129) (by simp; rfl) (by kernel_rfl) (by kernel_rfl) (by kernel_rfl) (by exact fun _ _ _ h => h) (Or.inl ⟨by rfl, ?yz129⟩) hHeld ?_
      case yz129 => (intro wx hSw; have hSx := Ex1.mk hSw; go_simp; (try with_reducible rfl))
      try simp only [Act.put, List.setIfInBounds_toArray, List.set_cons_zero, List.set_cons_succ]
      refine wpAnyH_take (i := 6) (v := undef) (by simp; rfl) (by kernel_rfl) (by kernel_rfl) (by kernel_rfl) (by exact fun _ _ _ h => h) (Or.inr ⟨by rfl, rfl⟩) hHeld ?_
      try simp only [Act.put, List.setIfInBounds_toArray, List.set_cons_zero, List.set_cons_succ]
      refine wpAnyH_take (i := 7) (v := undef) (by simp; rfl) (by kernel_rfl) (by kernel_rfl) (by kernel_rfl) (by exact fun _ _ _ h => h) (Or.inr ⟨by rfl, rfl⟩) hHeld ?_
      try simp only [Act.put, List.setIfInBounds_toArray, List.set_cons_zero, List.set_cons_succ]
      refine wpAnyH_take (i := 8) (v := undef) (by simp; rfl) (by kernel_rfl) (by kernel_rfl) (by kernel_rfl) (by exact fun _ _ _ h => h) (Or.inr ⟨by rfl, rfl⟩) hHeld ?_
      try simp only [Act.put, List.setIfInBounds_toArray, List.set_cons_zero, List.set_cons_succ]
      refine wpAnyH_take (i := 9) (v := undef) (by simp; rfl) (by kernel_rfl) (by kernel_rfl) (by kernel_rfl) (by exact fun _ _ _ h => h) (Or.inr ⟨by rfl, rfl⟩) hHeld ?_
      try simp only [Act.put, List.setIfInBounds_toArray, List.set_cons_zero, List.set_cons_succ]
      refine wpAnyH_take (i := 10) (v := ?z134) (by simp; rfl) (by kernel_rfl) (by kernel_rfl) (by kernel_rfl) (by exact fun _ _ _ h => h) (Or.inl ⟨by rfl, ?yz134⟩) hHeld ?_
      case yz134 => (intro wx hSw; have hSx := Ex1.mk hSw; go_simp; (try with_reducible rfl))
      try simp only [Act.put, List.setIfInBounds_toArray, List.set_cons_zero, List.set_cons_succ]
      refine wpAnyH_take (i := 11) (v := ?z135) (by simp; rfl) (by kernel_rfl) (by kernel_rfl) (by kernel_rfl) (by exact fun _ _ _ h => h) (Or.inl ⟨by rfl, ?yz135⟩) hHeld ?_
      case yz135 => (intro wx hSw; have hSx := Ex1.mk hSw; go_simp; (try with_reducible rfl))
      try simp only [Act.put, List.setIfInBounds_toArray, List.set_cons_zero, List.set_cons_succ]
      refine wpAnyH_done (by kernel_rfl) ?_ _
      clear hHeld
      go_wp2
      go_ret
      exact E.fin (by rw [← HV.out]; rfl)
    · go_enter Tryz.func92, Tryz.ntmps92
      go_wp2_with fail
      refine region_cls (by kernel_rfl) [] (fun hHeld => ?_)
      refine wpAnyH_take (i := 0) (v := ?z145) (by simp; rfl) (by kernel_rfl) (by kernel_rfl) (by kernel_rfl) (by exact fun _ _ _ h => h) (Or.inl ⟨by rfl, ?yz145⟩) hHeld ?_
      case yz145 => (intro wx hSw; have hSx := Ex1.mk hSw; go_simp; (try with_reducible rfl))
      try simp only [Act.put, List.setIfInBounds_toArray, List.set_cons_zero, List.set_cons_succ]
      refine wpAnyH_take (i := 1) (v := ?z146) (by simp; rfl) (by kernel_rfl) (by kernel_rfl) (by kernel_rfl) (by exact fun _ _ _ h => h) (Or.inl ⟨by rfl, ?yz146⟩) hHeld ?_
      case yz146 => (intro wx hSw; have hSx := Ex1.mk hSw; go_simp; (try with_reducible rfl))
      try simp only [Act.put, List.setIfInBounds_toArray, List.set_cons_zero, List.set_cons_succ]
      refine wpAnyH_ready (rs := [2]) (by kernel_rfl) (by simp) ?_
      refine AllReadyH.cons (by simp; rfl) (fun K hK => ?_) AllReadyH.nil
      go_simp
      (go_at_call 43; (with_reducible refine Calls.cQ (refQC (by omega)) ?_); intros)
      refine hK.out _ _ inferInstance ?_
      clear hHeld hK K
      intro hHeld
      try simp only [Act.put, List.setIfInBounds_toArray, List.set_cons_zero, List.set_cons_succ]
      refine wpAnyH_ready (rs := [3]) (by kernel_rfl) (by simp) ?_
      refine AllReadyH.cons (by simp; rfl) (fun K hK => ?_) AllReadyH.nil
      go_simp
      (go_at_call 38; (with_reducible refine Calls.cA (toQC (by omega)) ?_); intros)
      refine hK.out _ _ inferInstance ?_
      clear hHeld hK K
      intro hHeld
      try simp only [Act.put, List.setIfInBounds_toArray, List.set_cons_zero, List.set_cons_succ]
      refine wpAnyH_ready (rs := [4]) (by kernel_rfl) (by simp) ?_
      refine AllReadyH.cons (by simp; rfl) (fun K hK => ?_) AllReadyH.nil
      go_simp
      (go_at_call 57; (with_reducible refine Calls.cE (sameQL HB) ?_); intros)
      refine hK.out _ _ inferInstance ?_
      clear hHeld hK K
      intro hHeld
      try simp only [Act.put, List.setIfInBounds_toArray, List.set_cons_zero, List.set_cons_succ]
      refine wpAnyH_take (i := 5) (v := ?z147) (by simp; rfl) (by kernel_rfl) (by kernel_rfl) (by kernel_rfl) (by exact fun _ _ _ h => h) (Or.inl ⟨by rfl, ?yz147⟩) hHeld ?_
      case yz147 => (intro wx hSw; have hSx := Ex1.mk hSw; go_simp; (try with_reducible rfl))
      try simp only [Act.put, List.setIfInBounds_toArray, List.set_cons_zero, List.set_cons_succ]
      refine wpAnyH_take (i := 6) (v := ?z148) (by simp; rfl) (by kernel_rfl) (by kernel_rfl) (by kernel_rfl) (by exact fun _ _ _ h => h) (Or.inl ⟨by rfl, ?yz148⟩) hHeld ?_
      case yz148 => (intro wx hSw; have hSx := Ex1.mk hSw; go_simp; (try with_reducible rfl))
      try simp only [Act.put, List.setIfInBounds_toArray, List.set_cons_zero, List.set_cons_succ]
      refine wpAnyH_take (i := 7) (v := ?z149) (by simp; rfl) (by kernel_rfl) (by kernel_rfl) (by kernel_rfl) (by exact fun _ _ _ h => h) (Or.inl ⟨by rfl, ?yz149⟩) hHeld ?_
      case yz149 => (intro wx hSw; have hSx := Ex1.mk hSw; go_simp; (try with_reducible rfl))
      try simp only [Act.put, List.setIfInBounds_toArray, List.set_cons_zero, List.set_cons_succ]
      refine wpAnyH_take (i := 8) (v := ?z150) (by simp; rfl) (by kernel_rfl) (by kernel_rfl) (by kernel_rfl) (by exact fun _ _ _ h => h) (Or.inl ⟨by rfl, ?yz150⟩) hHeld ?_
      case yz150 => (intro wx hSw; have hSx := Ex1.mk hSw; go_simp; (try with_reducible rfl))
      try simp only [Act.put, List.setIfInBounds_toArray, List.set_cons_zero, List.set_cons_succ]
      refine wpAnyH_take (i := 9) (v := ?z151) (by simp; rfl) (by kernel_rfl) (by kernel_rfl) (by kernel_rfl) (by exact fun _ _ _ h => h) (Or.inl ⟨by rfl, ?yz151⟩) hHeld ?_
      case yz151 => (intro wx hSw; have hSx := Ex1.mk hSw; go_simp; (try with_reducible rfl))
      try simp only [Act.put, List.setIfInBounds_toArray, List.set_cons_zero, List.set_cons_succ]
      refine wpAnyH_take (i := 10) (v := ?z152) (by simp; rfl) (by kernel_rfl) (by kernel_rfl) (by kernel_rfl) (by exact fun _ _ _ h => h) (Or.inl ⟨by rfl, ?yz152⟩) hHeld ?_
      case yz152 => (intro wx hSw; have hSx := Ex1.mk hSw; go_simp; (try with_reducible rfl))
      try simp only [Act.put, List.setIfInBounds_toArray, List.set_cons_zero, List.set_cons_succ]
      refine wpAnyH_take (i := 11) (v := ?z153) (by simp; rfl) (by kernel_rfl) (by kernel_rfl) (by kernel_rfl) (by exact fun _ _ _ h => h) (Or.inl ⟨by rfl, ?yz153⟩) hHeld ?_
      case yz153 => (intro wx hSw; have hSx := Ex1.mk hSw; go_simp; (try with_reducible rfl))
      try simp only [Act.put, List.setIfInBounds_toArray, List.set_cons_zero, List.set_cons_succ]
      refine wpAnyH_done (by kernel_rfl) ?_ _
      clear hHeld
      go_wp2
      go_ret
      exact E.fin (by rw [← HV.out]; rfl)
end Go.Proofs.YtlameeijogdckaaGreat

/- Points that came in as arguments: whether they are short, normal forms. printed by a small program (mkpf.py). -/
namespace Go.Proofs.YtlameeijogdckaaGreat
open Go.RowKit

theorem loadVar_off {P : Program} (W : World) (b off : Nat) (ty : TypeId) (vs : List Value) (d : TypeDesc) (hu : P.underlying ty = some d) (hd : (match d with | .struct _ | .array _ _ => true | _ => false) = true)
    (hi : (P.info? ty).map (·.size) = some vs.length) (hc : ∀ j (hj : j < vs.length), W.cell? ⟨b, off + j, none⟩ = some vs[j]) : (loadVar ty ⟨b, off, none⟩).run P W = .ok (.agg vs.toArray) W := by
  have hl : (loadCells ⟨b, off, none⟩ vs.length).run P W = .ok vs.toArray W :=
    run_loadCells_list (P := P) W ⟨b, off, none⟩ vs (fun j v hv => by
      have hadd : (⟨b, off, none⟩ : Addr).add j = ⟨b, off + j, none⟩ := by unfold Addr.add; split <;> simp_all
      rw [hadd]
      have hj : j < vs.length := by
        rcases Nat.lt_or_ge j vs.length with h | h
        · exact h
        · rw [List.getElem?_eq_none h] at hv; cases hv
      rw [hc j hj, ← hv, List.getElem?_eq_getElem hj])
  cases hq : P.info? ty with
  | none => simp [hq] at hi
  | some i =>
    have hs : i.size = vs.length := by simpa [hq] using hi
    have hagg : (isAgg ty).run P W = .ok true W := by
      unfold isAgg
      rw [Sem.run_bind, run_underlying hu W]
      cases d <;> simp_all
    simp [loadVar, hagg, sizeOf, typeInfo, hq, hs, hl]
/-- All four lengths are at most n. -/
def small4 (n a b c d : Nat) : Bool := decide (a ≤ n ∧ b ≤ n ∧ c ≤ n ∧ d ≤ n)
set_option maxRecDepth 100000 in
set_option maxHeartbeats 4000000 in
set_option synthInstance.maxSize 100000 in
set_option synthInstance.maxHeartbeats 1000000 in
theorem smallQ2 {w : World} {q : Nat} {g1 : Bool} {a1 aa1 : Option Addr} {l1 c1 ll1 cc1 : Nat} {g2 : Bool} {a2 aa2 : Option Addr} {l2 c2 ll2 cc2 : Nat} [h : Bx w q 27 [.bool g1, .slice a1 l1 c1, .slice aa1 ll1 cc1, .bool g2, .slice a2 l2 c2, .slice aa2 ll2 cc2]] {v : Bool} (hv : Hid (small4 6 l1 ll1 l2 ll2 = v)) :
    Calls Tryz.prog 86 #[.int .i64 6, .slice (some ⟨q, 0, none⟩) 2 2] w fun e w' => e = .returned (.bool v) ∧ Below w.heap.size w w' := by
  have HV : Hid (decide (l1 ≤ 6 ∧ ll1 ≤ 6 ∧ l2 ≤ 6 ∧ ll2 ≤ 6) = v) := hv
  clear hv
  by_cases h0 : l1 ≤ 6
  · by_cases h1 : ll1 ≤ 6
    · by_cases h2 : l2 ≤ 6
      · by_cases h3 : ll2 ≤ 6
        · have f0 : (l1 : Int) ≤ 6 := by omega
          have f1 : (ll1 : Int) ≤ 6 := by omega
          have f2 : (l2 : Int) ≤ 6 := by omega
          have f3 : (ll2 : Int) ≤ 6 := by omega
          obtain rfl : true = v := by have := HV.out; rw [← this]; simp; omega
          clear HV
          go_enter Tryz.func86, Tryz.ntmps86
          go_wp2_with fail
          refine wp_loop_rounds 3 ?_
          rw [rounds_succ]
          go_wp2_with fail
          rw [rounds_succ]
          go_wp2_with fail
          rw [rounds_succ]
          go_wp2_with fail
          go_ret
          exact E.fin rfl
        · have f0 : (l1 : Int) ≤ 6 := by omega
          have f1 : (ll1 : Int) ≤ 6 := by omega
          have f2 : (l2 : Int) ≤ 6 := by omega
          have f3 : (6 : Int) < ll2 := by omega
          obtain rfl : false = v := by have := HV.out; rw [← this]; simp; omega
          clear HV
          go_enter Tryz.func86, Tryz.ntmps86
          go_wp2_with fail
          refine wp_loop_rounds 2 ?_
          rw [rounds_succ]
          go_wp2_with fail
          rw [rounds_succ]
          go_wp2_with fail
          go_ret
          exact E.fin rfl
      · have f0 : (l1 : Int) ≤ 6 := by omega
        have f1 : (ll1 : Int) ≤ 6 := by omega
        have f2 : (6 : Int) < l2 := by omega
        obtain rfl : false = v := by have := HV.out; rw [← this]; simp; omega
        clear HV
        go_enter Tryz.func86, Tryz.ntmps86
        go_wp2_with fail
        refine wp_loop_rounds 2 ?_
        rw [rounds_succ]
        go_wp2_with fail
        rw [rounds_succ]
        go_wp2_with fail
        go_ret
        exact E.fin rfl
    · have f0 : (l1 : Int) ≤ 6 := by omega
      have f1 : (6 : Int) < ll1 := by omega
      obtain rfl : false = v := by have := HV.out; rw [← this]; simp; omega
      clear HV
      go_enter Tryz.func86, Tryz.ntmps86
      go_wp2_with fail
      refine wp_loop_rounds 1 ?_
      rw [rounds_succ]
      go_wp2_with fail
      go_ret
      exact E.fin rfl
  · have f0 : (6 : Int) < l1 := by omega
    obtain rfl : false = v := by have := HV.out; rw [← this]; simp; omega
    clear HV
    go_enter Tryz.func86, Tryz.ntmps86
    go_wp2_with fail
    refine wp_loop_rounds 1 ?_
    rw [rounds_succ]
    go_wp2_with fail
    go_ret
    exact E.fin rfl

set_option maxRecDepth 100000 in
set_option maxHeartbeats 4000000 in
set_option synthInstance.maxSize 100000 in
set_option synthInstance.maxHeartbeats 1000000 in
theorem pNormC {w : World} {g1x : Bool} {a1x : Option Addr} {l1x : Nat} {c1x : Nat} {aa1x : Option Addr} {ll1x : Nat} {cc1x : Nat} {g1y : Bool} {a1y : Option Addr} {l1y : Nat} {c1y : Nat} {aa1y : Option Addr} {ll1y : Nat} {cc1y : Nat} {x y : Rat} {k1x k1y : Nat} [h1x : CW w (.agg #[.bool g1x, .slice a1x l1x c1x, .slice aa1x ll1x cc1x]) x k1x] [h1y : CW w (.agg #[.bool g1y, .slice a1y l1y c1y, .slice aa1y ll1y cc1y]) y k1y] (b : k1x ≤ 20000 ∧ k1y ≤ 20000) :
    Calls Tryz.prog 16 #[.agg #[.bool g1x, .slice a1x l1x c1x, .slice aa1x ll1x cc1x, .bool g1y, .slice a1y l1y c1y, .slice aa1y ll1y cc1y]] w (CPARet w (x) (y) (max k1x k1y + 2)) := by
  go_enter Tryz.func16, Tryz.ntmps16
  go_wp2_with (first
    | (go_at_call 89; (with_reducible refine Calls.cPF (ptOfC (by omega)) ?_); intros)
    | (go_at_call 90; (with_reducible refine Calls.cPA (ptApiC (by omega)) ?_); intros))
  refine ret_bx rfl Tryz.underlying29 rfl (by kernel_rfl) rfl rfl rfl ?_
  exact CPARet.fin rfl (by omega) rfl (by omega)

set_option maxRecDepth 100000 in
set_option maxHeartbeats 4000000 in
set_option synthInstance.maxSize 100000 in
set_option synthInstance.maxHeartbeats 1000000 in
theorem gNormalL {w : World} {g1 : Bool} {a1 aa1 : Option Addr} {l1 c1 ll1 cc1 : Nat} {g2 : Bool} {a2 aa2 : Option Addr} {l2 c2 ll2 cc2 : Nat} {LX LLX LY LLY : List Nat} [h1 : RL w (.slice a1 l1 c1) LX] [h2 : RL w (.slice aa1 ll1 cc1) LLX] [h3 : RL w (.slice a2 l2 c2) LY] [h4 : RL w (.slice aa2 ll2 cc2) LLY] (b : LX.length ≤ 30000 ∧ LLX.length ≤ 30000 ∧ LY.length ≤ 30000 ∧ LLY.length ≤ 30000) {v : Bool} (hv : Hid ((nrmQ g1 LX LLX && nrmQ g2 LY LLY) = v)) :
    Calls Tryz.prog 91 #[.agg #[.bool g1, .slice a1 l1 c1, .slice aa1 ll1 cc1, .bool g2, .slice a2 l2 c2, .slice aa2 ll2 cc2]] w fun e w' => e = .returned (.bool v) ∧ Below w.heap.size w w' := by
  obtain ⟨b1, b2, b3, b4⟩ := b
  obtain ⟨x, hx⟩ : ∃ x, nrmQ g1 LX LLX = x := ⟨_, rfl⟩
  obtain ⟨y, hy⟩ : ∃ y, nrmQ g2 LY LLY = y := ⟨_, rfl⟩
  have HV : Hid ((x && y) = v) := by show _ = _; rw [← hx, ← hy]; exact hv.out
  have HX := Lib.hid hx
  have HY := Lib.hid hy
  clear hx hy hv
  cases x with
  | true =>
    go_enter Tryz.func91, Tryz.ntmps91
    go_wp2_with (first
      | (go_at_call 170; (with_reducible refine Calls.cE (fracNormalL ⟨by omega, by omega⟩ HX) ?_); intros)
      | (go_at_call 170; (with_reducible refine Calls.cE (fracNormalL ⟨by omega, by omega⟩ HY) ?_); intros))
    go_ret
    exact E.fin (by rw [← HV.out]; rfl)
  | false =>
    go_enter Tryz.func91, Tryz.ntmps91
    go_wp2_with (first
      | (go_at_call 170; (with_reducible refine Calls.cE (fracNormalL ⟨by omega, by omega⟩ HX) ?_); intros)
      | (go_at_call 170; (with_reducible refine Calls.cE (fracNormalL ⟨by omega, by omega⟩ HY) ?_); intros))
    go_ret
    exact E.fin (by rw [← HV.out]; rfl)

set_option maxRecDepth 100000 in
set_option maxHeartbeats 4000000 in
set_option synthInstance.maxSize 100000 in
set_option synthInstance.maxHeartbeats 1000000 in
theorem refNormalL {w : World} {g1 : Bool} {a1 aa1 : Option Addr} {l1 c1 ll1 cc1 : Nat} {g2 : Bool} {a2 aa2 : Option Addr} {l2 c2 ll2 cc2 : Nat} {LX LLX LY LLY : List Nat} [h1 : RL w (.slice a1 l1 c1) LX] [h2 : RL w (.slice aa1 ll1 cc1) LLX] [h3 : RL w (.slice a2 l2 c2) LY] [h4 : RL w (.slice aa2 ll2 cc2) LLY] (b : LX.length ≤ 30000 ∧ LLX.length ≤ 30000 ∧ LY.length ≤ 30000 ∧ LLY.length ≤ 30000) {v : Bool} (hv : Hid ((nrmQ g1 LX LLX && nrmQ g2 LY LLY) = v)) :
    Calls Tryz.prog 18 #[.agg #[.bool g1, .slice a1 l1 c1, .slice aa1 ll1 cc1, .bool g2, .slice a2 l2 c2, .slice aa2 ll2 cc2]] w fun e w' => e = .returned (.bool v) ∧ Below w.heap.size w w' := by
  obtain ⟨b1, b2, b3, b4⟩ := b
  obtain ⟨x, hx⟩ : ∃ x, nrmQ g1 LX LLX = x := ⟨_, rfl⟩
  obtain ⟨y, hy⟩ : ∃ y, nrmQ g2 LY LLY = y := ⟨_, rfl⟩
  have HV : Hid ((x && y) = v) := by show _ = _; rw [← hx, ← hy]; exact hv.out
  have HX := Lib.hid hx
  have HY := Lib.hid hy
  clear hx hy hv
  cases x with
  | true =>
    go_enter Tryz.func18, Tryz.ntmps18
    go_wp2_with (first
      | (go_at_call 92; (with_reducible refine Calls.cE (normalQL ⟨by omega, by omega⟩ HX) ?_); intros)
      | (go_at_call 92; (with_reducible refine Calls.cE (normalQL ⟨by omega, by omega⟩ HY) ?_); intros))
    go_ret
    exact E.fin (by rw [← HV.out]; rfl)
  | false =>
    go_enter Tryz.func18, Tryz.ntmps18
    go_wp2_with (first
      | (go_at_call 92; (with_reducible refine Calls.cE (normalQL ⟨by omega, by omega⟩ HX) ?_); intros)
      | (go_at_call 92; (with_reducible refine Calls.cE (normalQL ⟨by omega, by omega⟩ HY) ?_); intros))
    go_ret
    exact E.fin (by rw [← HV.out]; rfl)

set_option maxRecDepth 100000 in
set_option maxHeartbeats 4000000 in
set_option synthInstance.maxSize 100000 in
set_option synthInstance.maxHeartbeats 1000000 in
theorem pNormalL {w : World} {g1 : Bool} {a1 aa1 : Option Addr} {l1 c1 ll1 cc1 : Nat} {g2 : Bool} {a2 aa2 : Option Addr} {l2 c2 ll2 cc2 : Nat} {LX LLX LY LLY : List Nat} [h1 : RL w (.slice a1 l1 c1) LX] [h2 : RL w (.slice aa1 ll1 cc1) LLX] [h3 : RL w (.slice a2 l2 c2) LY] [h4 : RL w (.slice aa2 ll2 cc2) LLY] (b : LX.length ≤ 30000 ∧ LLX.length ≤ 30000 ∧ LY.length ≤ 30000 ∧ LLY.length ≤ 30000) {v : Bool} (hv : Hid ((nrmQ g1 LX LLX && nrmQ g2 LY LLY) = v)) :
    Calls Tryz.prog 17 #[.agg #[.bool g1, .slice a1 l1 c1, .slice aa1 ll1 cc1, .bool g2, .slice a2 l2 c2, .slice aa2 ll2 cc2]] w fun e w' => e = .returned (.bool v) ∧ Below w.heap.size w w' := by
  go_enter Tryz.func17, Tryz.ntmps17
  go_wp2_with (go_at_call 91; (with_reducible refine Calls.cE (gNormalL b hv) ?_); intros)
  go_ret
  exact E.fin rfl

set_option maxRecDepth 100000 in
set_option maxHeartbeats 4000000 in
set_option synthInstance.maxSize 100000 in
set_option synthInstance.maxHeartbeats 1000000 in
theorem smallP2 {w : World} {q : Nat} {g1 : Bool} {a1 aa1 : Option Addr} {l1 c1 ll1 cc1 : Nat} {g2 : Bool} {a2 aa2 : Option Addr} {l2 c2 ll2 cc2 : Nat} {g3 : Bool} {a3 aa3 : Option Addr} {l3 c3 ll3 cc3 : Nat} {g4 : Bool} {a4 aa4 : Option Addr} {l4 c4 ll4 cc4 : Nat} [h : Bx w q 29 [.bool g1, .slice a1 l1 c1, .slice aa1 ll1 cc1, .bool g2, .slice a2 l2 c2, .slice aa2 ll2 cc2, .bool g3, .slice a3 l3 c3, .slice aa3 ll3 cc3, .bool g4, .slice a4 l4 c4, .slice aa4 ll4 cc4]] {v : Bool} (hv : Hid ((small4 6 l1 ll1 l2 ll2 && small4 6 l3 ll3 l4 ll4) = v)) :
    Calls Tryz.prog 12 #[.int .i64 6, .slice (some ⟨q, 0, none⟩) 2 2] w fun e w' => e = .returned (.bool v) ∧ Below w.heap.size w w' := by
  obtain ⟨x, hx⟩ : ∃ x, small4 6 l1 ll1 l2 ll2 = x := ⟨_, rfl⟩
  obtain ⟨y, hy⟩ : ∃ y, small4 6 l3 ll3 l4 ll4 = y := ⟨_, rfl⟩
  have HV : Hid ((x && y) = v) := by show _ = _; rw [← hx, ← hy]; exact hv.out
  have HX := Lib.hid hx
  have HY := Lib.hid hy
  clear hx hy hv
  cases x with
  | false =>
    obtain rfl : false = v := HV.out
    go_enter Tryz.func12, Tryz.ntmps12
    go_wp2_with fail
    refine wp_loop_rounds 1 ?_
    rw [rounds_succ]
    go_wp2_with (first | (go_at_call 86; (with_reducible refine Calls.cE (smallQ2 HX) ?_); intros) | (go_at_call 86; (with_reducible refine Calls.cE (smallQ2 HY) ?_); intros))
    go_ret
    exact E.fin rfl
  | true =>
    obtain rfl : y = v := HV.out
    cases y with
    | false =>
      go_enter Tryz.func12, Tryz.ntmps12
      go_wp2_with fail
      refine wp_loop_rounds 2 ?_
      rw [rounds_succ]
      go_wp2_with (first | (go_at_call 86; (with_reducible refine Calls.cE (smallQ2 HX) ?_); intros) | (go_at_call 86; (with_reducible refine Calls.cE (smallQ2 HY) ?_); intros))
      rw [rounds_succ]
      go_wp2_with (first | (go_at_call 86; (with_reducible refine Calls.cE (smallQ2 HX) ?_); intros) | (go_at_call 86; (with_reducible refine Calls.cE (smallQ2 HY) ?_); intros))
      go_ret
      exact E.fin rfl
    | true =>
      go_enter Tryz.func12, Tryz.ntmps12
      go_wp2_with fail
      refine wp_loop_rounds 3 ?_
      rw [rounds_succ]
      go_wp2_with (first | (go_at_call 86; (with_reducible refine Calls.cE (smallQ2 HX) ?_); intros) | (go_at_call 86; (with_reducible refine Calls.cE (smallQ2 HY) ?_); intros))
      rw [rounds_succ]
      go_wp2_with (first | (go_at_call 86; (with_reducible refine Calls.cE (smallQ2 HX) ?_); intros) | (go_at_call 86; (with_reducible refine Calls.cE (smallQ2 HY) ?_); intros))
      rw [rounds_succ]
      go_wp2_with (first | (go_at_call 86; (with_reducible refine Calls.cE (smallQ2 HX) ?_); intros) | (go_at_call 86; (with_reducible refine Calls.cE (smallQ2 HY) ?_); intros))
      go_ret
      exact E.fin rfl

end Go.Proofs.YtlameeijogdckaaGreat

/- What a struct that came in as an argument of a law looks like: integers, rational numbers, points, lines of package api by value. -/
namespace Go.Proofs.YtlameeijogdckaaGreat
open Go.RowKit Go.ChangeShapes Go.WideShapes

theorem len2 {α : Type} {l : List α} (h : l.length = 2) : ∃ a b, l = [a, b] := match l, h with | [a, b], _ => ⟨a, b, rfl⟩
theorem len3 {α : Type} {l : List α} (h : l.length = 3) : ∃ a b c, l = [a, b, c] := match l, h with | [a, b, c], _ => ⟨a, b, c, rfl⟩
theorem len6 {α : Type} {l : List α} (h : l.length = 6) : ∃ a b c d e f, l = [a, b, c, d, e, f] := match l, h with | [a, b, c, d, e, f], _ => ⟨a, b, c, d, e, f, rfl⟩
set_option maxRecDepth 100000
section
variable {H : Type} {enc : TypeId × Value → H} {W : World}
theorem tr_nat {fuel : Nat} {cs : List Value} {x : DataW H × List MemPlace} (h : DataW.trod enc Tryz.prog W 0 (fun _ => true) true fuel 23 cs = some x) : ∃ a l c zs, cs = [.slice a l c] ∧ IsRow .u32 W a l c zs := by
  rcases open_ints Tryz.underlying23 Tryz.underlying157 (by kernel_rfl) h with ⟨hcs, _⟩ | ⟨x, l, c, zs, hcs, _, hl, hm, hz, _, hcell, hwz⟩
  · exact ⟨none, 0, 0, [], hcs, .inl ⟨rfl, rfl, rfl, rfl⟩⟩
  · exact ⟨some x, l, c, zs, hcs, .inr ⟨x, rfl, hl, hm, by simpa using hz, hcell, hwz⟩⟩
theorem cells_int : Tryz.prog.cellsOf 25 = 2 := by kernel_rfl
theorem cells_rat : Tryz.prog.cellsOf 27 = 3 := by kernel_rfl
theorem cells_point : Tryz.prog.cellsOf 29 = 6 := by kernel_rfl
theorem cells_line : Tryz.prog.cellsOf 51 = 6 := by kernel_rfl
theorem cells_bool : Tryz.prog.cellsOf 4 = 1 := by kernel_rfl
theorem cells_nat : Tryz.prog.cellsOf 23 = 1 := by kernel_rfl
theorem tr_int {fuel : Nat} {cs : List Value} {x : DataW H × List MemPlace} (h : DataW.trod enc Tryz.prog W 0 (fun _ => true) true fuel 25 cs = some x) : ∃ g a l c zs, cs = [.bool g, .slice a l c] ∧ IsRow .u32 W a l c zs := by
  obtain ⟨y0, y1, n, _, hl, h0, h1⟩ := trod_struct2 Tryz.underlying25 h
  have hl2 := hl.trans cells_int
  obtain ⟨c0, c1, rfl⟩ := len2 hl2
  dsimp only at h0 h1
  rw [cells_bool] at h0
  rw [cells_nat] at h1
  obtain ⟨g, e0, _⟩ := DataW.trod_bool Tryz.underlying4 h0
  obtain ⟨a, l, c, zs, e1, w1⟩ := tr_nat h1
  simp at e0 e1
  subst e0; subst e1
  exact ⟨g, a, l, c, zs, rfl, w1⟩
theorem op_int {v : Value} {d : DataW H} {p : List MemPlace} {b0 : Nat} (hv : Value.okWide Tryz.prog W .any b0 25 v) (h : DataW.Trod enc Tryz.prog W 0 (fun _ => true) true 25 v d p) :
    ∃ g a l c zs, v = .agg #[.bool g, .slice a l c] ∧ IsRow .u32 W a l c zs := by
  obtain ⟨⟨cs⟩, rfl, hsz⟩ := okWide_struct Tryz.underlying25 hv
  obtain ⟨fuel, hf⟩ := h
  obtain ⟨g, a, l, c, zs, e, w1⟩ := tr_int (cs := cs) hf
  subst e
  exact ⟨g, a, l, c, zs, rfl, w1⟩
theorem tr_rat {fuel : Nat} {cs : List Value} {x : DataW H × List MemPlace} (h : DataW.trod enc Tryz.prog W 0 (fun _ => true) true fuel 27 cs = some x) : ∃ g a l c zs aa ll cc zz, cs = [.bool g, .slice a l c, .slice aa ll cc] ∧ IsRow .u32 W a l c zs ∧ IsRow .u32 W aa ll cc zz := by
  obtain ⟨y0, y1, n, _, hl, h0, h1⟩ := trod_struct2 Tryz.underlying27 h
  have hl2 := hl.trans cells_rat
  obtain ⟨c0, c1, c2, rfl⟩ := len3 hl2
  dsimp only at h0 h1
  rw [cells_int] at h0
  rw [cells_nat] at h1
  obtain ⟨g, a, l, c, zs, e0, w0⟩ := tr_int h0
  obtain ⟨aa, ll, cc, zz, e1, w1⟩ := tr_nat h1
  simp at e0 e1
  obtain ⟨rfl, rfl⟩ := e0
  subst e1
  exact ⟨g, a, l, c, zs, aa, ll, cc, zz, rfl, w0, w1⟩
theorem op_rat {v : Value} {d : DataW H} {p : List MemPlace} {b0 : Nat} (hv : Value.okWide Tryz.prog W .any b0 27 v) (h : DataW.Trod enc Tryz.prog W 0 (fun _ => true) true 27 v d p) :
    ∃ g a l c zs aa ll cc zz, v = .agg #[.bool g, .slice a l c, .slice aa ll cc] ∧ IsRow .u32 W a l c zs ∧ IsRow .u32 W aa ll cc zz := by
  obtain ⟨⟨cs⟩, rfl, hsz⟩ := okWide_struct Tryz.underlying27 hv
  obtain ⟨fuel, hf⟩ := h
  obtain ⟨g, a, l, c, zs, aa, ll, cc, zz, e, w1, w2⟩ := tr_rat (cs := cs) hf
  subst e
  exact ⟨g, a, l, c, zs, aa, ll, cc, zz, rfl, w1, w2⟩
theorem op_point {v : Value} {d : DataW H} {p : List MemPlace} {b0 : Nat} (hv : Value.okWide Tryz.prog W .any b0 29 v) (h : DataW.Trod enc Tryz.prog W 0 (fun _ => true) true 29 v d p) :
    ∃ g a l c zs aa ll cc zz g' a' l' c' zs' aa' ll' cc' zz', v = .agg #[.bool g, .slice a l c, .slice aa ll cc, .bool g', .slice a' l' c', .slice aa' ll' cc'] ∧ IsRow .u32 W a l c zs ∧ IsRow .u32 W aa ll cc zz ∧ IsRow .u32 W a' l' c' zs' ∧ IsRow .u32 W aa' ll' cc' zz' := by
  obtain ⟨⟨cs⟩, rfl, hsz⟩ := okWide_struct Tryz.underlying29 hv
  obtain ⟨fuel, hf⟩ := h
  obtain ⟨y0, y1, n, _, hl, h0, h1⟩ := trod_struct2 (cs := cs) Tryz.underlying29 hf
  have hl2 := hl.trans cells_point
  obtain ⟨c0, c1, c2, c3, c4, c5, rfl⟩ := len6 hl2
  dsimp only at h0 h1
  rw [cells_rat] at h0 h1
  obtain ⟨g, a, l, c, zs, aa, ll, cc, zz, e0, w0, w1⟩ := tr_rat h0
  obtain ⟨g', a', l', c', zs', aa', ll', cc', zz', e1, w0', w1'⟩ := tr_rat h1
  simp at e0 e1
  obtain ⟨rfl, rfl, rfl⟩ := e0
  obtain ⟨rfl, rfl, rfl⟩ := e1
  exact ⟨g, a, l, c, zs, aa, ll, cc, zz, g', a', l', c', zs', aa', ll', cc', zz', rfl, w0, w1, w0', w1'⟩
end
end Go.Proofs.YtlameeijogdckaaGreat
