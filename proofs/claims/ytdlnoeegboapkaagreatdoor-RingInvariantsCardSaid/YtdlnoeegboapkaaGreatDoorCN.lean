/-
  Texts of this claim, joined: Nrm, Rg2, Ord2, Rg1, Rgs, Ap.
-/
import Derived.Test.YtdlnoeegboapkaaGreatDoorCM
import Derived.Test.YtdlnoeegboapkaaGreatDoorCE
import Derived.Test.YtdlnoeegboapkaaGreatDoorCL
/- Normal forms of numbers that came in as arguments: the digits are any digits. Package frac and the reference decide alike. printed by a small program (mknrm.py). -/
namespace Go.Proofs.YtdlnoeegboapkaaGreatDoor
open Go.RowKit
set_option maxRecDepth 100000
set_option maxHeartbeats 40000000
set_option synthInstance.maxSize 100000
set_option synthInstance.maxHeartbeats 1000000

/-- The slice v reads as the digits l. -/
class RL (W : World) (v : Value) (l : outParam (List Nat)) : Prop where out : Rd W v l
instance RL.al {W : World} {v : Value} {l : (List Nat)} {o : Obj} [h : RL W v l] : RL (W.alloc o) v l := ⟨h.out.keep (blw_one _ _)⟩
instance RL.kp {W W2 : World} {v : Value} {l : (List Nat)} [b : Kp1 W W2] [h : RL W v l] : RL W2 v l := ⟨h.out.keep (b.out)⟩
instance (priority := low) CR.ofL {W : World} {v : Value} {l : List Nat} [h : RL W v l] : CR W v (val l) l.length := ⟨.of_rd h.out (Nat.le_refl _)⟩
theorem RL.len {W : World} {a : Option Addr} {n c : Nat} {l : List Nat} (h : RL W (.slice a n c) l) : n = l.length := h.out.len
theorem normalB_nfx (n : Nat) : normalB (nf n) = true := by
  by_cases h : n = 0
  · subst h; rfl
  · exact normalB_ne (nf_last n h)
theorem normalB_iff {l : List Nat} (hl : Dig l) : normalB l = true ↔ l = nf (val l) := by
  constructor
  · intro h
    refine (nf_of_normal hl ?_).symm
    simp only [normalB, Bool.or_eq_true, decide_eq_true_eq] at h
    rcases h with h | h
    · left; exact List.eq_nil_of_length_eq_zero h
    · right; exact h
  · intro h; rw [h]; exact normalB_nfx _
/-- The integer with sign g and digits l is in normal form. -/
def nrmI (g : Bool) (l : List Nat) : Bool := normalB l && (!g || decide (0 < l.length))
def nrmQ (g : Bool) (l ll : List Nat) : Bool := nrmI g l && normalB ll && decide (0 < ll.length) && decide (Nat.gcd (val l) (val ll) = 1)
theorem natNormalLV {w : World} {a1 : Option Addr} {l1 c1 : Nat} {L : List Nat} {v : Bool} [h1 : RL w (.slice a1 l1 c1) L] (hv : Hid (normalB L = v)) :
    Calls Tryz.prog 263 #[.slice a1 l1 c1] w fun e w' => e = .returned (.bool v) ∧ w = w' := by
  rw [← hv.out]
  exact normal_any _ _ _ h1.out
theorem intNormalL {w : World} {g1 v : Bool} {a1 : Option Addr} {l1 c1 : Nat} {L : List Nat} [h1 : RL w (.slice a1 l1 c1) L] (hv : Hid (nrmI g1 L = v)) :
    Calls Tryz.prog 262 #[.agg #[.bool g1, .slice a1 l1 c1]] w fun e w' => e = .returned (.bool v) ∧ Below w.heap.size w w' := by
  have hl := h1.len
  have HV : Hid ((normalB L && (!g1 || decide (0 < l1))) = v) := by show _ = _; rw [hl]; exact hv.out
  clear hv hl
  obtain ⟨b, hb⟩ : ∃ b, normalB L = b := ⟨_, rfl⟩
  rw [hb] at HV
  have HB := Lib.hid hb
  clear hb
  by_cases hp : 0 < l1
  · have hp2 : decide (0 < l1) = true := decide_eq_true hp
    rw [hp2] at HV
    cases b <;> cases g1
    all_goals
      go_enter Tryz.func262, Tryz.ntmps262
      go_wp2_with (first
    | (go_at_call 263; (with_reducible refine Calls.cS (natNormalLV HB) ?_); intros))
      go_ret
      exact E.fin (by rw [← HV.out]; rfl)
  · have hp2 : decide (0 < l1) = false := decide_eq_false hp
    obtain rfl : l1 = 0 := by omega
    clear hp
    rw [hp2] at HV
    cases b <;> cases g1
    all_goals
      go_enter Tryz.func262, Tryz.ntmps262
      go_wp2_with (first
    | (go_at_call 263; (with_reducible refine Calls.cS (natNormalLV HB) ?_); intros))
      go_ret
      exact E.fin (by rw [← HV.out]; rfl)
theorem fracNormalL {w : World} {g1 v : Bool} {a1 aa1 : Option Addr} {l1 c1 ll1 cc1 : Nat} {L LL : List Nat} [h1 : RL w (.slice a1 l1 c1) L] [h1' : RL w (.slice aa1 ll1 cc1) LL] (b1 : L.length ≤ 900000 ∧ LL.length ≤ 900000) (hv : Hid (nrmQ g1 L LL = v)) :
    Calls Tryz.prog 200 #[.agg #[.bool g1, .slice a1 l1 c1, .slice aa1 ll1 cc1]] w fun e w' => e = .returned (.bool v) ∧ Below w.heap.size w w' := by
  have hl := h1'.len
  have HV : Hid ((nrmI g1 L && normalB LL && decide (0 < ll1) && decide (Nat.gcd (val L) (val LL) = 1)) = v) := by show _ = _; rw [hl]; exact hv.out
  clear hv
  obtain ⟨b, hb⟩ : ∃ b, nrmI g1 L = b := ⟨_, rfl⟩
  obtain ⟨c, hc⟩ : ∃ c, normalB LL = c := ⟨_, rfl⟩
  rw [hb, hc] at HV
  have HB := Lib.hid hb
  have HC := Lib.hid hc
  have hg0 : val LL ≠ 0 → Nat.gcd (val L) (val LL) ≠ 0 := fun h e => h (Nat.eq_zero_of_gcd_eq_zero_right e)
  have hz : c = true → 0 < ll1 → val LL ≠ 0 := fun h1 h2 e => by
    rw [h1] at hc
    have := (normalB_iff h1'.out.dig).1 hc
    rw [e] at this
    rw [hl, this] at h2
    simp [nf_zero] at h2
  clear hb hc hl
  cases b
  · go_enter Tryz.func200, Tryz.ntmps200
    go_wp2_with (first
    | (go_at_call 262; (with_reducible refine Calls.cE (intNormalL HB) ?_); intros)
    | (go_at_call 263; (with_reducible refine Calls.cS (natNormalLV HC) ?_); intros)
    | (go_at_call 249; (with_reducible refine Calls.cN (gcdC (by omega)) ?_); intros)
    | (go_at_call 133; (with_reducible refine Calls.cS (bitsC (by omega)) ?_); intros))
    go_ret
    exact E.fin (by rw [← HV.out]; rfl)
  cases c
  · go_enter Tryz.func200, Tryz.ntmps200
    go_wp2_with (first
    | (go_at_call 262; (with_reducible refine Calls.cE (intNormalL HB) ?_); intros)
    | (go_at_call 263; (with_reducible refine Calls.cS (natNormalLV HC) ?_); intros)
    | (go_at_call 249; (with_reducible refine Calls.cN (gcdC (by omega)) ?_); intros)
    | (go_at_call 133; (with_reducible refine Calls.cS (bitsC (by omega)) ?_); intros))
    go_ret
    exact E.fin (by rw [← HV.out]; rfl)
  by_cases hp : 0 < ll1
  · have hgz := hg0 (hz rfl hp)
    rw [show decide (0 < ll1) = true from decide_eq_true hp] at HV
    clear hg0 hz
    by_cases hg : Nat.gcd (val L) (val LL) = 1
    · rw [show decide (Nat.gcd (val L) (val LL) = 1) = true from decide_eq_true hg] at HV
      have hn : (((nbits (Nat.gcd (val L) (val LL)) : Nat) : Int) == 1) = true := by rw [hg]; decide +kernel
      clear hg hgz
      go_enter Tryz.func200, Tryz.ntmps200
      go_wp2_with (first
    | (go_at_call 262; (with_reducible refine Calls.cE (intNormalL HB) ?_); intros)
    | (go_at_call 263; (with_reducible refine Calls.cS (natNormalLV HC) ?_); intros)
    | (go_at_call 249; (with_reducible refine Calls.cN (gcdC (by omega)) ?_); intros)
    | (go_at_call 133; (with_reducible refine Calls.cS (bitsC (by omega)) ?_); intros))
      go_ret
      exact E.fin (by rw [← HV.out]; rfl)
    · rw [show decide (Nat.gcd (val L) (val LL) = 1) = false from decide_eq_false hg] at HV
      have hn : (((nbits (Nat.gcd (val L) (val LL)) : Nat) : Int) == 1) = false := by
        rw [beq_eq_false_iff_ne]
        have := @nbits1 (Nat.gcd (val L) (val LL))
        omega
      clear hg hgz
      go_enter Tryz.func200, Tryz.ntmps200
      go_wp2_with (first
    | (go_at_call 262; (with_reducible refine Calls.cE (intNormalL HB) ?_); intros)
    | (go_at_call 263; (with_reducible refine Calls.cS (natNormalLV HC) ?_); intros)
    | (go_at_call 249; (with_reducible refine Calls.cN (gcdC (by omega)) ?_); intros)
    | (go_at_call 133; (with_reducible refine Calls.cS (bitsC (by omega)) ?_); intros))
      go_ret
      exact E.fin (by rw [← HV.out]; rfl)
  · rw [show decide (0 < ll1) = false from decide_eq_false hp] at HV
    obtain rfl : ll1 = 0 := by omega
    clear hp hg0 hz
    go_enter Tryz.func200, Tryz.ntmps200
    go_wp2_with (first
    | (go_at_call 262; (with_reducible refine Calls.cE (intNormalL HB) ?_); intros)
    | (go_at_call 263; (with_reducible refine Calls.cS (natNormalLV HC) ?_); intros)
    | (go_at_call 249; (with_reducible refine Calls.cN (gcdC (by omega)) ?_); intros)
    | (go_at_call 133; (with_reducible refine Calls.cS (bitsC (by omega)) ?_); intros))
    go_ret
    exact E.fin (by rw [← HV.out]; rfl)
end Go.Proofs.YtdlnoeegboapkaaGreatDoor

/- Lists of points: the first of the equal ones, normal forms, and the functions that turn each point into another kind. printed by a small program (mkrg2.py). -/
namespace Go.Proofs.YtdlnoeegboapkaaGreatDoor
open Go.RowKit
set_option maxRecDepth 100000
set_option maxHeartbeats 40000000
set_option synthInstance.maxSize 100000
set_option synthInstance.maxHeartbeats 1000000

theorem ptEqualV {w : World} {n1x d1x n1y d1y n2x d2x n2y d2y : Int} {p1x p1y p2x p2y : Option Addr} {x1 y1 x2 y2 : Rat} {k1x k1y k2x k2y : Nat} {v : Bool} [h1x : CF w (.agg #[.int .i64 n1x, .int .i64 d1x, .pointer p1x]) x1 k1x] [h1y : CF w (.agg #[.int .i64 n1y, .int .i64 d1y, .pointer p1y]) y1 k1y] [h2x : CF w (.agg #[.int .i64 n2x, .int .i64 d2x, .pointer p2x]) x2 k2x] [h2y : CF w (.agg #[.int .i64 n2y, .int .i64 d2y, .pointer p2y]) y2 k2y] (b : k1x ≤ 20000 ∧ k1y ≤ 20000 ∧ k2x ≤ 20000 ∧ k2y ≤ 20000) (hv : Hid (decide ((x1, y1) = (x2, y2)) = v)) :
    Calls Tryz.prog 108 #[.agg #[.int .i64 n1x, .int .i64 d1x, .pointer p1x, .int .i64 n1y, .int .i64 d1y, .pointer p1y], .agg #[.int .i64 n2x, .int .i64 d2x, .pointer p2x, .int .i64 n2y, .int .i64 d2y, .pointer p2y]] w (fun e w' => e = .returned (.bool v) ∧ Below w.heap.size w w') :=
  (ptEqualC b).mono fun e w' ⟨h1, h2⟩ => ⟨by rw [h1, ← hv.out]; congr 2; rw [Bool.eq_iff_iff]; simp, h2⟩
/-- The first place of a point that is there. -/
def FirstRet (w : World) (L : List (Rat × Rat)) (p : Rat × Rat) (e : Ending) (w' : World) : Prop := ∃ m : Nat, e = .returned (.int .i64 (m : Int)) ∧ FirstAt L p m ∧ Below w.heap.size w w'
theorem Calls.cFirst {P : Program} {f : FuncId} {args : Array Value} {w : World} {L : List (Rat × Rat)} {p : Rat × Rat} {K : Ending → World → Prop} (h : Calls P f args w (FirstRet w L p))
    (hK : ∀ w' [Kp1 w w'] (m : Nat), FirstAt L p m → K (.returned (.int .i64 (m : Int))) w') : Calls P f args w K := by
  refine h.mono ?_
  rintro e w' ⟨m, rfl, hm, hb⟩
  exact @hK w' ⟨hb⟩ m hm
theorem firstC {w w0 : World} {a : Option Addr} {n c : Nat} {V : List FV} {L : List (Rat × Rat)} {k : Nat} [hs : Sl w (.slice a n c) V.length (rowF V) w0] [hp : PsF w V L k] {nx dx ny dy : Int} {px py : Option Addr} {x y : Rat} {kx ky : Nat} [hx : CF w (.agg #[.int .i64 nx, .int .i64 dx, .pointer px]) x kx] [hy : CF w (.agg #[.int .i64 ny, .int .i64 dy, .pointer py]) y ky] (b : k ≤ 20000 ∧ kx ≤ 20000 ∧ ky ≤ 20000) (hV : V.length ≤ 1000000) (hin : ∃ j, j < V.length ∧ pg L j = (x, y)) :
    Calls Tryz.prog 144 #[.slice a n c, .agg #[.int .i64 nx, .int .i64 dx, .pointer px, .int .i64 ny, .int .i64 dy, .pointer py]] w (FirstRet w L (x, y)) := by
  obtain rfl := hs.len
  obtain ⟨j0, hj0, hj1⟩ := hin
  obtain ⟨g, rfl, hA⟩ := hs.form (by omega)
  have hlen := Lib.hid hp.len
  go_enter Tryz.func144, Tryz.ntmps144
  go_wp2_with fail
  go_loopw [9] (fun i wr => ∃ q : Nat, i = .int .i64 (q : Int) ∧ q ≤ V.length ∧ Kp w wr ∧ Bx wr w.heap.size 152 [.int .i64 nx, .int .i64 dx, .pointer px, .int .i64 ny, .int .i64 dy, .pointer py] ∧ ∀ j, j < q → pg L j ≠ (x, y)) (fun i _ => V.length - (intOf i).toNat)
  case atStart => exact ⟨0, rfl, by omega, inferInstance, inferInstance, fun j hj => by omega⟩
  case round =>
    obtain ⟨q, rfl, hq, i1, i2, hno⟩ := hrel
    have kw := Kp1.mk i1.out
    have hlt : q < V.length := by
      rcases Nat.lt_or_ge q V.length with h | h
      · exact h
      · exact absurd hj1 (hno j0 (by omega))
    have hlt' : (q : Int) < V.length := by omega
    have lq : LtN q V.length := ⟨hlt⟩
    have ew : IntKind.i64.wrap ((q : Int) + 1) = (q : Int) + 1 := wr_in (by omega) (by omega)
    by_cases he : pg L q = (x, y)
    · have hv : Hid (decide (((pg L q).1, (pg L q).2) = (x, y)) = true) := Lib.hid (by rw [show ((pg L q).1, (pg L q).2) = pg L q from rfl, he]; simp)
      go_wp2_with (first
        | (go_at_call 108; (with_reducible refine Calls.cE (ptEqualV (by omega) hv) ?_); intros))
      go_ret
      exact ⟨q, rfl, ⟨by have := hlen.out; omega, he, hno⟩, (inferInstance : Kp w _).out⟩
    · have hv : Hid (decide (((pg L q).1, (pg L q).2) = (x, y)) = false) := Lib.hid (by rw [show ((pg L q).1, (pg L q).2) = pg L q from rfl]; simpa using he)
      go_wp2_with (first
        | (go_at_call 108; (with_reducible refine Calls.cE (ptEqualV (by omega) hv) ?_); intros))
      go_roundw
      case rel => exact ⟨q + 1, by go_num, by omega, inferInstance, inferInstance, fun j hj => by
        rcases Nat.lt_or_ge j q with h | h
        · exact hno j h
        · have : j = q := by omega
          subst this; exact he⟩
      case measure => simp [intOf]; omega
theorem rlZ {w : World} {g : Bool} {a : Option Addr} {l c : Nat} {z : Int} {k : Nat} (h : CZ w (.agg #[.bool g, .slice a l c]) z k) : RL w (.slice a l c) (nf z.natAbs) := ⟨(zz_of h).2.1⟩
theorem nrmZ {w : World} {g : Bool} {a : Option Addr} {l c : Nat} {z : Int} {k : Nat} (h : CZ w (.agg #[.bool g, .slice a l c]) z k) : nrmI g (nf z.natAbs) = true := by
  have hg := (zz_of h).1
  unfold nrmI
  rw [normalB_nfx, Bool.true_and]
  by_cases hz : z < 0
  · have : 0 < (nf z.natAbs).length := nf_len_pos (by omega)
    simp [this]
  · rw [hg, decide_eq_false hz]; rfl
theorem nrmA {w : World} {g : Bool} {a aa : Option Addr} {l c ll cc : Nat} {x : Rat} {k : Nat} (h : CA w (.agg #[.bool g, .slice a l c, .slice aa ll cc]) x k) : RL w (.slice a l c) (nf x.num.natAbs) ∧ RL w (.slice aa ll cc) (nf x.den) ∧ nrmQ g (nf x.num.natAbs) (nf x.den) = true := by
  have i1 := h.num
  have i2 := h.den
  refine ⟨rlZ i1, ⟨i2.out.1⟩, ?_⟩
  unfold nrmQ
  have h0 : 0 < (nf x.den).length := nf_len_pos x.den_nz
  simp only [nrmZ i1, normalB_nfx, val_nf, Bool.true_and, Bool.and_eq_true, decide_eq_true_eq]
  exact ⟨h0, x.reduced⟩
theorem fracNormalA9 {w : World} {g1 : Bool} {a1 : Option Addr} {l1 c1 : Nat} {aa1 : Option Addr} {ll1 cc1 : Nat} {x : Rat} {k1 : Nat} [h1 : CA w (.agg #[.bool g1, .slice a1 l1 c1, .slice aa1 ll1 cc1]) x k1] (b : k1 ≤ 80000) :
    Calls Tryz.prog 200 #[.agg #[.bool g1, .slice a1 l1 c1, .slice aa1 ll1 cc1]] w (fun e w' => e = .returned (.bool true) ∧ Below w.heap.size w w') := by
  obtain ⟨i1, i2, i3⟩ := nrmA h1
  have e1 : (nf x.num.natAbs).length ≤ k1 := by have := (zz_of h1.num).2.2; exact this
  have e2 : (nf x.den).length ≤ k1 := h1.den.out.2
  exact fracNormalL (L := nf x.num.natAbs) (LL := nf x.den) ⟨by omega, by omega⟩ (Lib.hid i3)
theorem gNormalA {w : World} {g1x g1y : Bool} {a1x aa1x a1y aa1y : Option Addr} {l1x c1x ll1x cc1x l1y c1y ll1y cc1y k1x k1y : Nat} {x y : Rat} [h1x : CA w (.agg #[.bool g1x, .slice a1x l1x c1x, .slice aa1x ll1x cc1x]) x k1x] [h1y : CA w (.agg #[.bool g1y, .slice a1y l1y c1y, .slice aa1y ll1y cc1y]) y k1y] (b : k1x ≤ 80000 ∧ k1y ≤ 80000) :
    Calls Tryz.prog 142 #[.agg #[.bool g1x, .slice a1x l1x c1x, .slice aa1x ll1x cc1x, .bool g1y, .slice a1y l1y c1y, .slice aa1y ll1y cc1y]] w (fun e w' => e = .returned (.bool true) ∧ Below w.heap.size w w') := by
  go_enter Tryz.func142, Tryz.ntmps142
  go_wp2_with (first
    | (go_at_call 200; (with_reducible refine Calls.cE (fracNormalA9 (by omega)) ?_); intros))
  go_ret
  exact E.fin rfl
theorem take_pg {L : List (Rat × Rat)} {q : Nat} (h : q < L.length) : L.take (q + 1) = L.take q ++ [((pg L q).1, (pg L q).2)] := by
  rw [List.take_succ_eq_append_getElem h, pg_get h]
theorem toPsC {w w0 : World} {a : Option Addr} {n c : Nat} {V : List AV} {L : List (Rat × Rat)} {k : Nat} [hs : Sl w (.slice a n c) V.length (rowA V) w0] [hp : PsQ w V L k] (b : k ≤ 400000) (hV : V.length ≤ 900000) :
    Calls Tryz.prog 27 #[.slice a n c] w (PsARet w L (k + 1)) := by
  obtain rfl := hs.len
  have hlen := Lib.hid hp.len
  go_enter Tryz.func27, Tryz.ntmps27
  go_wp2_with fail
  go_loopw [8, 3] (fun i o wr => ∃ (q : Nat) (U : List AV), i = .int .i64 (q : Int) ∧ q ≤ V.length ∧ Rn wr o 31 6 U.length (rowA U) w.heap.size wr ∧ Hid (U.length = q) ∧ PsA wr U (L.take q) (k + 1) ∧ Kp w wr) (fun i _ _ => V.length - (intOf i).toNat)
  case atStart => exact ⟨0, [], rfl, by omega, Rn.nil (Nat.le_refl _), Lib.hid rfl, PsA.nil, inferInstance⟩
  case round =>
    obtain ⟨q, U, rfl, hq, i1, hU, i2, i3⟩ := hrel
    have kw := Kp1.mk i3.out
    by_cases hlt : q < V.length
    · obtain ⟨g, rfl, hA⟩ := hs.form (by omega)
      have hlt' : (q : Int) < V.length := by omega
      have lq : LtN q V.length := ⟨hlt⟩
      have ew : IntKind.i64.wrap ((q : Int) + 1) = (q : Int) + 1 := wr_in (by omega) (by omega)
      go_wp2_with (first
        | (go_at_call 21; (with_reducible refine Calls.cPA (toPC (by omega)) ?_); intro w1 _ gx ax lx cx aax llx ccx gy ay ly cy aay lly ccy i7 i8)
        | (at_builtin; go_loud (refine app_rn1 (v := u3) rfl (.tmp 12) (.tmp 15) 55 rfl Tryz.underlying55 info_a rfl (by decide) (by decide) (by decide) inferInstance rfl (rowA_nd _) rfl (by rfl) ?h1 ?h2 (by first | omega | (have := hU.out; omega)) ?_); (case h1 => exact AV.one ⟨_, _, _, _, _, _, _, _, _, _, _, _, _, _⟩); (case h2 => exact AV.nd ⟨_, _, _, _, _, _, _, _, _, _, _, _, _, _⟩); intro g2 c2 w2 i9 i10 i11))
      go_roundw
      case rel => exact ⟨q + 1, U ++ [⟨gx, ax, lx, cx, aax, llx, ccx, gy, ay, ly, cy, aay, lly, ccy⟩], by go_num, by omega, Rn.cast2 (inferInstance) (by simp) (by rw [rowA_snoc]; rfl), Lib.hid (by rw [List.length_append, hU.out]; rfl), by rw [take_pg (by have := hlen.out; omega)]; exact PsA.add (by omega) (by omega), inferInstance⟩
      case measure => simp [intOf]; omega
    · obtain rfl : q = V.length := by omega
      rw [List.take_of_length_le (by have := hlen.out; omega)] at i2
      obtain ⟨a3, c3, rfl⟩ := i1.slice
      go_wp2_with fail
      go_ret
      exact PsARet.fin (V := U) rfl (by omega)
theorem ringApiC {w w0 : World} {a : Option Addr} {n c : Nat} {V : List FV} {L : List (Rat × Rat)} {k : Nat} [hs : Sl w (.slice a n c) V.length (rowF V) w0] [hp : PsF w V L k] (b : k ≤ 400000) (hV : V.length ≤ 900000) :
    Calls Tryz.prog 86 #[.slice a n c] w (PsARet w L (k)) := by
  obtain rfl := hs.len
  have hlen := Lib.hid hp.len
  go_enter Tryz.func86, Tryz.ntmps86
  go_wp2_with fail
  go_loopw [8, 3] (fun i o wr => ∃ (q : Nat) (U : List AV), i = .int .i64 (q : Int) ∧ q ≤ V.length ∧ Rn wr o 31 6 U.length (rowA U) w.heap.size wr ∧ Hid (U.length = q) ∧ PsA wr U (L.take q) (k) ∧ Kp w wr) (fun i _ _ => V.length - (intOf i).toNat)
  case atStart => exact ⟨0, [], rfl, by omega, Rn.nil (Nat.le_refl _), Lib.hid rfl, PsA.nil, inferInstance⟩
  case round =>
    obtain ⟨q, U, rfl, hq, i1, hU, i2, i3⟩ := hrel
    have kw := Kp1.mk i3.out
    by_cases hlt : q < V.length
    · obtain ⟨g, rfl, hA⟩ := hs.form (by omega)
      have hlt' : (q : Int) < V.length := by omega
      have lq : LtN q V.length := ⟨hlt⟩
      have ew : IntKind.i64.wrap ((q : Int) + 1) = (q : Int) + 1 := wr_in (by omega) (by omega)
      go_wp2_with (first
        | (go_at_call 122; (with_reducible refine Calls.cPA (ptApiC (by omega)) ?_); intro w1 _ gx ax lx cx aax llx ccx gy ay ly cy aay lly ccy i7 i8)
        | (at_builtin; go_loud (refine app_rn1 (v := u3) rfl (.tmp 12) (.tmp 15) 56 rfl Tryz.underlying56 info_a rfl (by decide) (by decide) (by decide) inferInstance rfl (rowA_nd _) rfl (by rfl) ?h1 ?h2 (by first | omega | (have := hU.out; omega)) ?_); (case h1 => exact AV.one ⟨_, _, _, _, _, _, _, _, _, _, _, _, _, _⟩); (case h2 => exact AV.nd ⟨_, _, _, _, _, _, _, _, _, _, _, _, _, _⟩); intro g2 c2 w2 i9 i10 i11))
      go_roundw
      case rel => exact ⟨q + 1, U ++ [⟨gx, ax, lx, cx, aax, llx, ccx, gy, ay, ly, cy, aay, lly, ccy⟩], by go_num, by omega, Rn.cast2 (inferInstance) (by simp) (by rw [rowA_snoc]; rfl), Lib.hid (by rw [List.length_append, hU.out]; rfl), by rw [take_pg (by have := hlen.out; omega)]; exact PsA.add (by omega) (by omega), inferInstance⟩
      case measure => simp [intOf]; omega
    · obtain rfl : q = V.length := by omega
      rw [List.take_of_length_le (by have := hlen.out; omega)] at i2
      obtain ⟨a3, c3, rfl⟩ := i1.slice
      go_wp2_with fail
      go_ret
      exact PsARet.fin (V := U) rfl (by omega)
end Go.Proofs.YtdlnoeegboapkaaGreatDoor

/- The orders of points and of directions, the reference's primitive vectors. printed by a small program (mkord.py). -/
namespace Go.Proofs.YtdlnoeegboapkaaGreatDoor
open Go.RowKit
set_option maxRecDepth 100000
set_option maxHeartbeats 40000000
set_option synthInstance.maxSize 100000
set_option synthInstance.maxHeartbeats 1000000

/-- The order of points. -/
def cmpR (x1 y1 x2 y2 : Rat) : Int := if isgn (x1 - x2).num = 0 then isgn (y1 - y2).num else isgn (x1 - x2).num
theorem ptCmpC {w : World} {n1x d1x n1y d1y n2x d2x n2y d2y : Int} {p1x p1y p2x p2y : Option Addr} {x1 y1 x2 y2 : Rat} {k1x k1y k2x k2y : Nat} [h1x : CF w (.agg #[.int .i64 n1x, .int .i64 d1x, .pointer p1x]) x1 k1x] [h1y : CF w (.agg #[.int .i64 n1y, .int .i64 d1y, .pointer p1y]) y1 k1y] [h2x : CF w (.agg #[.int .i64 n2x, .int .i64 d2x, .pointer p2x]) x2 k2x] [h2y : CF w (.agg #[.int .i64 n2y, .int .i64 d2y, .pointer p2y]) y2 k2y] (b : k1x ≤ 100000 ∧ k1y ≤ 100000 ∧ k2x ≤ 100000 ∧ k2y ≤ 100000) :
    Calls Tryz.prog 148 #[.agg #[.int .i64 n1x, .int .i64 d1x, .pointer p1x, .int .i64 n1y, .int .i64 d1y, .pointer p1y], .agg #[.int .i64 n2x, .int .i64 d2x, .pointer p2x, .int .i64 n2y, .int .i64 d2y, .pointer p2y]] w (fun e w' => e = .returned (.int .i64 (cmpR x1 y1 x2 y2)) ∧ Below w.heap.size w w') := by
  obtain ⟨q1, q2⟩ := isgn_bd (x1 - x2).num
  by_cases hc : isgn (x1 - x2).num = 0
  · have HE : Hid (cmpR x1 y1 x2 y2 = isgn (y1 - y2).num) := if_pos hc
    have HC := Lib.hid hc
    clear hc q1 q2
    go_enter Tryz.func148, Tryz.ntmps148
    go_wp2_with (first
    | (go_at_call 204; (with_reducible refine Calls.cE (rCmpV (by omega) HC) ?_); intros)
    | (go_at_call 204; (with_reducible refine Calls.cE (rCmpC (by omega)) ?_); intros))
    go_ret
    exact E.fin (by rw [HE.out]; rfl)
  · have HE : Hid (cmpR x1 y1 x2 y2 = isgn (x1 - x2).num) := if_neg hc
    obtain ⟨c, hC⟩ : ∃ c, isgn (x1 - x2).num = c := ⟨_, rfl⟩
    rw [hC] at HE hc q1 q2
    have HC := Lib.hid hC
    have q : (c == 0) = false := by rw [beq_eq_false_iff_ne]; exact hc
    clear hC hc
    go_enter Tryz.func148, Tryz.ntmps148
    go_wp2_with (first
    | (go_at_call 204; (with_reducible refine Calls.cE (rCmpV (by omega) HC) ?_); intros)
    | (go_at_call 204; (with_reducible refine Calls.cE (rCmpC (by omega)) ?_); intros))
    go_ret
    exact E.fin (by rw [HE.out]; rfl)

theorem refCompareC {w : World} {g1x g1y g2x g2y : Bool} {a1x aa1x a1y aa1y a2x aa2x a2y aa2y : Option Addr} {l1x c1x ll1x cc1x l1y c1y ll1y cc1y l2x c2x ll2x cc2x l2y c2y ll2y cc2y k1x k1y k2x k2y : Nat} {x1 y1 x2 y2 : Rat} [h1x : CQ w (.agg #[.bool g1x, .slice a1x l1x c1x, .slice aa1x ll1x cc1x]) x1 k1x] [h1y : CQ w (.agg #[.bool g1y, .slice a1y l1y c1y, .slice aa1y ll1y cc1y]) y1 k1y] [h2x : CQ w (.agg #[.bool g2x, .slice a2x l2x c2x, .slice aa2x ll2x cc2x]) x2 k2x] [h2y : CQ w (.agg #[.bool g2y, .slice a2y l2y c2y, .slice aa2y ll2y cc2y]) y2 k2y] (b : k1x ≤ 9000 ∧ k1y ≤ 9000 ∧ k2x ≤ 9000 ∧ k2y ≤ 9000) :
    Calls Tryz.prog 88 #[.agg #[.bool g1x, .slice a1x l1x c1x, .slice aa1x ll1x cc1x, .bool g1y, .slice a1y l1y c1y, .slice aa1y ll1y cc1y], .agg #[.bool g2x, .slice a2x l2x c2x, .slice aa2x ll2x cc2x, .bool g2y, .slice a2y l2y c2y, .slice aa2y ll2y cc2y]] w (fun e w' => e = .returned (.int .i64 (cmpR x1 y1 x2 y2)) ∧ Below w.heap.size w w') := by
  obtain ⟨q1, q2⟩ := isgn_bd (x1 - x2).num
  by_cases hc : isgn (x1 - x2).num = 0
  · have HE : Hid (cmpR x1 y1 x2 y2 = isgn (y1 - y2).num) := if_pos hc
    have HC := Lib.hid hc
    clear hc q1 q2
    go_enter Tryz.func88, Tryz.ntmps88
    go_wp2_with (first
    | (go_at_call 78; (with_reducible refine Calls.cE (numCV (by omega) HC) ?_); intros)
    | (go_at_call 78; (with_reducible refine Calls.cE (numCC (by omega)) ?_); intros))
    go_ret
    exact E.fin (by rw [HE.out]; rfl)
  · have HE : Hid (cmpR x1 y1 x2 y2 = isgn (x1 - x2).num) := if_neg hc
    obtain ⟨c, hC⟩ : ∃ c, isgn (x1 - x2).num = c := ⟨_, rfl⟩
    rw [hC] at HE hc q1 q2
    have HC := Lib.hid hC
    have q : (c == 0) = false := by rw [beq_eq_false_iff_ne]; exact hc
    clear hC hc
    go_enter Tryz.func88, Tryz.ntmps88
    go_wp2_with (first
    | (go_at_call 78; (with_reducible refine Calls.cE (numCV (by omega) HC) ?_); intros)
    | (go_at_call 78; (with_reducible refine Calls.cE (numCC (by omega)) ?_); intros))
    go_ret
    exact E.fin (by rw [HE.out]; rfl)

theorem orientV {w : World} {v : Int} {n1x d1x n1y d1y n2x d2x n2y d2y n3x d3x n3y d3y : Int} {p1x p1y p2x p2y p3x p3y : Option Addr} {x1 y1 x2 y2 x3 y3 : Rat} {k1x k1y k2x k2y k3x k3y : Nat} [h1x : CF w (.agg #[.int .i64 n1x, .int .i64 d1x, .pointer p1x]) x1 k1x] [h1y : CF w (.agg #[.int .i64 n1y, .int .i64 d1y, .pointer p1y]) y1 k1y] [h2x : CF w (.agg #[.int .i64 n2x, .int .i64 d2x, .pointer p2x]) x2 k2x] [h2y : CF w (.agg #[.int .i64 n2y, .int .i64 d2y, .pointer p2y]) y2 k2y] [h3x : CF w (.agg #[.int .i64 n3x, .int .i64 d3x, .pointer p3x]) x3 k3x] [h3y : CF w (.agg #[.int .i64 n3y, .int .i64 d3y, .pointer p3y]) y3 k3y] (b : k1x ≤ 5000 ∧ k1y ≤ 5000 ∧ k2x ≤ 5000 ∧ k2y ≤ 5000 ∧ k3x ≤ 5000 ∧ k3y ≤ 5000) (hv : Hid (orientR x1 y1 x2 y2 x3 y3 = v)) :
    Calls Tryz.prog 110 #[.agg #[.int .i64 n1x, .int .i64 d1x, .pointer p1x, .int .i64 n1y, .int .i64 d1y, .pointer p1y], .agg #[.int .i64 n2x, .int .i64 d2x, .pointer p2x, .int .i64 n2y, .int .i64 d2y, .pointer p2y], .agg #[.int .i64 n3x, .int .i64 d3x, .pointer p3x, .int .i64 n3y, .int .i64 d3y, .pointer p3y]] w (fun e w' => e = .returned (.int .i64 v) ∧ Below w.heap.size w w') := by
  rw [← hv.out]; exact orientC b
theorem refOrientV {w : World} {v : Int} {g1x g1y g2x g2y g3x g3y : Bool} {a1x aa1x a1y aa1y a2x aa2x a2y aa2y a3x aa3x a3y aa3y : Option Addr} {l1x c1x ll1x cc1x l1y c1y ll1y cc1y l2x c2x ll2x cc2x l2y c2y ll2y cc2y l3x c3x ll3x cc3x l3y c3y ll3y cc3y k1x k1y k2x k2y k3x k3y : Nat} {x1 y1 x2 y2 x3 y3 : Rat} [h1x : CQ w (.agg #[.bool g1x, .slice a1x l1x c1x, .slice aa1x ll1x cc1x]) x1 k1x] [h1y : CQ w (.agg #[.bool g1y, .slice a1y l1y c1y, .slice aa1y ll1y cc1y]) y1 k1y] [h2x : CQ w (.agg #[.bool g2x, .slice a2x l2x c2x, .slice aa2x ll2x cc2x]) x2 k2x] [h2y : CQ w (.agg #[.bool g2y, .slice a2y l2y c2y, .slice aa2y ll2y cc2y]) y2 k2y] [h3x : CQ w (.agg #[.bool g3x, .slice a3x l3x c3x, .slice aa3x ll3x cc3x]) x3 k3x] [h3y : CQ w (.agg #[.bool g3y, .slice a3y l3y c3y, .slice aa3y ll3y cc3y]) y3 k3y] (b : k1x ≤ 1000 ∧ k1y ≤ 1000 ∧ k2x ≤ 1000 ∧ k2y ≤ 1000 ∧ k3x ≤ 1000 ∧ k3y ≤ 1000) (hv : Hid (orientR x1 y1 x2 y2 x3 y3 = v)) :
    Calls Tryz.prog 113 #[.agg #[.bool g1x, .slice a1x l1x c1x, .slice aa1x ll1x cc1x, .bool g1y, .slice a1y l1y c1y, .slice aa1y ll1y cc1y], .agg #[.bool g2x, .slice a2x l2x c2x, .slice aa2x ll2x cc2x, .bool g2y, .slice a2y l2y c2y, .slice aa2y ll2y cc2y], .agg #[.bool g3x, .slice a3x l3x c3x, .slice aa3x ll3x cc3x, .bool g3y, .slice a3y l3y c3y, .slice aa3y ll3y cc3y]] w (fun e w' => e = .returned (.int .i64 v) ∧ Below w.heap.size w w') := by
  rw [← hv.out]; exact refOrientC (by omega)
end Go.Proofs.YtdlnoeegboapkaaGreatDoor

/- The order of rings and the least rotation: plain facts. -/
namespace Go.Proofs.YtdlnoeegboapkaaGreatDoor
open Go.RowKit

def cmpP (p q : Rat × Rat) : Int := cmpR p.1 p.2 q.1 q.2
/-- Lists of points, by their first difference; a beginning comes first. -/
def cmpLs : List (Rat × Rat) → List (Rat × Rat) → Int
  | [], [] => 0
  | [], _ :: _ => -1
  | _ :: _, [] => 1
  | p :: L, q :: M => if cmpP p q = 0 then cmpLs L M else cmpP p q
theorem drop_pg {L : List (Rat × Rat)} {i : Nat} (h : i < L.length) : L.drop i = pg L i :: L.drop (i + 1) := by
  rw [pg_get h, List.drop_eq_getElem_cons h]
theorem cmpLs_step {L M : List (Rat × Rat)} {i : Nat} (h1 : i < L.length) (h2 : i < M.length) (h : cmpP (pg L i) (pg M i) = 0) : cmpLs (L.drop i) (M.drop i) = cmpLs (L.drop (i + 1)) (M.drop (i + 1)) := by
  rw [drop_pg h1, drop_pg h2, cmpLs, if_pos h]
theorem cmpLs_ne {L M : List (Rat × Rat)} {i : Nat} (h1 : i < L.length) (h2 : i < M.length) (h : cmpP (pg L i) (pg M i) ≠ 0) : cmpLs (L.drop i) (M.drop i) = cmpP (pg L i) (pg M i) := by
  rw [drop_pg h1, drop_pg h2, cmpLs, if_neg h]
theorem cmpLs_end {L M : List (Rat × Rat)} {i : Nat} (h : L.length ≤ i ∨ M.length ≤ i) (hi : i ≤ L.length ∧ i ≤ M.length) : cmpLs (L.drop i) (M.drop i) = if L.length < M.length then -1 else if M.length < L.length then 1 else 0 := by
  by_cases h1 : L.length ≤ i
  · rw [List.drop_eq_nil_of_le h1]
    by_cases h2 : M.length ≤ i
    · rw [List.drop_eq_nil_of_le h2, if_neg (by omega), if_neg (by omega)]; rfl
    · rw [drop_pg (by omega), if_pos (by omega)]; rfl
  · have h2 : M.length ≤ i := by omega
    rw [List.drop_eq_nil_of_le h2, drop_pg (by omega), if_neg (by omega), if_pos (by omega)]; rfl
def rot (L : List (Rat × Rat)) (i : Nat) : List (Rat × Rat) := L.drop i ++ L.take i
theorem rot_len (L : List (Rat × Rat)) (i : Nat) : (rot L i).length = L.length := by simp [rot]; omega
theorem rot_pg {L : List (Rat × Rat)} {i : Nat} (h : i < L.length) : rot L i = pg L i :: (L.drop (i + 1) ++ L.take i) := by rw [rot, drop_pg h]; rfl
/-- The best of the first i rotations (and of the ring itself). -/
def bst (L : List (Rat × Rat)) : Nat → List (Rat × Rat)
  | 0 => L
  | i + 1 => if cmpLs (rot L i) (bst L i) < 0 then rot L i else bst L i
theorem bst_len (L : List (Rat × Rat)) (i : Nat) : (bst L i).length = L.length := by
  induction i with
  | zero => rfl
  | succ i ih => rw [bst]; split
                 · exact rot_len _ _
                 · exact ih
def canonL (L : List (Rat × Rat)) : List (Rat × Rat) := bst L L.length
theorem bst_skip {L : List (Rat × Rat)} {i : Nat} (hi : i < L.length) (h : 0 < cmpP (pg L i) (pg (bst L i) 0)) : bst L (i + 1) = bst L i := by
  rw [bst, if_neg]
  rw [rot_pg hi]
  have hb : 0 < (bst L i).length := by rw [bst_len]; omega
  have e : bst L i = pg (bst L i) 0 :: (bst L i).drop 1 := by
    have := drop_pg hb
    simpa using this
  rw [e, cmpLs, if_neg (by omega)]
  exact Int.not_lt.2 (Int.le_of_lt h)
theorem bst_better {L : List (Rat × Rat)} {i : Nat} (h : cmpLs (rot L i) (bst L i) < 0) : bst L (i + 1) = rot L i := by rw [bst, if_pos h]
theorem bst_same {L : List (Rat × Rat)} {i : Nat} (h : ¬ cmpLs (rot L i) (bst L i) < 0) : bst L (i + 1) = bst L i := by rw [bst, if_neg h]
end Go.Proofs.YtdlnoeegboapkaaGreatDoor

/- Points in ascending order, each once; the rings off the tape: plain facts. -/
namespace Go.Proofs.YtdlnoeegboapkaaGreatDoor
open Go.RowKit

theorem cmpP_lt {p q : Rat × Rat} : cmpP p q < 0 ↔ p.1 < q.1 ∨ (p.1 = q.1 ∧ p.2 < q.2) := by
  unfold cmpP cmpR
  have b1 := isgn_bd (p.1 - q.1).num
  have b2 := isgn_bd (p.2 - q.2).num
  have n1 := @isg_neg (p.1 - q.1)
  have n2 := @isg_neg (p.2 - q.2)
  have z1 := @isg_zero (p.1 - q.1)
  split
  · rename_i h
    have hz := z1.1 h
    constructor
    · intro hl
      have : isgn (p.2 - q.2).num = -1 := by omega
      have := n2.1 this
      right; constructor <;> grind
    · rintro (hl | ⟨_, hl⟩)
      · grind
      · have := n2.2 (by grind); omega
  · rename_i h
    constructor
    · intro hl
      have : isgn (p.1 - q.1).num = -1 := by omega
      have := n1.1 this
      left; grind
    · rintro (hl | ⟨hl, _⟩)
      · have := n1.2 (by grind); omega
      · exact absurd (z1.2 (by grind)) h
theorem cmpP_zero {p q : Rat × Rat} : cmpP p q = 0 ↔ p = q := by
  unfold cmpP cmpR
  have z1 := @isg_zero (p.1 - q.1)
  have z2 := @isg_zero (p.2 - q.2)
  split
  · rename_i h
    have hz := z1.1 h
    rw [z2, Prod.ext_iff]
    constructor
    · intro h2; constructor <;> grind
    · rintro ⟨_, h2⟩; grind
  · rename_i h
    constructor
    · intro h2; exact absurd h2 h
    · rintro rfl; exact absurd (z1.2 (by grind)) h
theorem cmpP_gt {p q : Rat × Rat} : 0 < cmpP p q ↔ cmpP q p < 0 := by
  have h0 := @cmpP_zero p q
  have h1 := @cmpP_lt p q
  have h2 := @cmpP_lt q p
  constructor
  · intro h
    rw [h2]
    have n1 : ¬ (p.1 < q.1 ∨ (p.1 = q.1 ∧ p.2 < q.2)) := fun hh => by have := h1.2 hh; omega
    have n0 : p ≠ q := fun e => by have := h0.2 e; omega
    rw [Ne, Prod.ext_iff] at n0
    grind
  · intro h
    rw [h2] at h
    have n1 : ¬ cmpP p q < 0 := fun hh => by have := h1.1 hh; grind
    have n0 : cmpP p q ≠ 0 := fun hh => by
      have := h0.1 hh
      subst this
      grind
    omega
theorem cmpP_trans {p q r : Rat × Rat} (h1 : cmpP p q < 0) (h2 : cmpP q r < 0) : cmpP p r < 0 := by
  rw [cmpP_lt] at h1 h2 ⊢; grind
def Asc (M : List (Rat × Rat)) : Prop := List.Pairwise (fun p q => cmpP p q < 0) M
def insP (M : List (Rat × Rat)) (i : Nat) (p : Rat × Rat) : List (Rat × Rat) := M.take i ++ p :: M.drop i
theorem insP_len {M : List (Rat × Rat)} {i : Nat} {p : Rat × Rat} (hi : i ≤ M.length) : (insP M i p).length = M.length + 1 := by simp [insP]; omega
theorem insP_mem {M : List (Rat × Rat)} {i : Nat} {p x : Rat × Rat} : x ∈ insP M i p ↔ x ∈ M ∨ x = p := by
  rw [insP, List.mem_append, List.mem_cons]
  constructor
  · rintro (h | h | h)
    · exact .inl (List.mem_of_mem_take h)
    · exact .inr h
    · exact .inl (List.mem_of_mem_drop h)
  · rintro (h | h)
    · rw [← List.take_append_drop i M, List.mem_append] at h
      rcases h with h | h
      · exact .inl h
      · exact .inr (.inr h)
    · exact .inr (.inl h)
/-- What the search for the place of p tells. -/
structure Place (M : List (Rat × Rat)) (p : Rat × Rat) (i : Nat) : Prop where
  le : i ≤ M.length
  below : ∀ j, j < i → cmpP (pg M j) p < 0
theorem asc_lt {M : List (Rat × Rat)} (h : Asc M) {i j : Nat} (hij : i < j) (hj : j < M.length) : cmpP (pg M i) (pg M j) < 0 := by
  rw [pg_get (by omega), pg_get hj]
  exact List.pairwise_iff_getElem.1 h i j (by omega) hj hij
theorem mem_pg {M : List (Rat × Rat)} {x : Rat × Rat} : x ∈ M ↔ ∃ j, j < M.length ∧ pg M j = x := by
  have := mem_take_pg (L := M) (k := M.length) (Nat.le_refl _) (p := x)
  rwa [List.take_length] at this
theorem place_new {M : List (Rat × Rat)} {p : Rat × Rat} {i : Nat} (h : Asc M) (hp : Place M p i) (he : i = M.length ∨ 0 < cmpP (pg M i) p) : p ∉ M ∧ Asc (insP M i p) := by
  have hab : ∀ j, i ≤ j → j < M.length → cmpP p (pg M j) < 0 := by
    intro j h1 h2
    rcases he with he | he
    · omega
    · rw [cmpP_gt] at he
      rcases Nat.eq_or_lt_of_le h1 with rfl | h3
      · exact he
      · exact cmpP_trans he (asc_lt h h3 h2)
  constructor
  · intro hm
    obtain ⟨j, hj, rfl⟩ := mem_pg.1 hm
    have hz : cmpP (pg M j) (pg M j) = 0 := cmpP_zero.2 rfl
    rcases Nat.lt_or_ge j i with hlt | hge
    · have := hp.below j hlt; omega
    · have := hab j hge hj; omega
  · unfold Asc insP
    rw [List.pairwise_append, List.pairwise_cons]
    refine ⟨h.sublist (List.take_sublist _ _), ⟨?_, h.sublist (List.drop_sublist _ _)⟩, ?_⟩
    · intro x hx
      obtain ⟨j, hj, rfl⟩ := List.mem_iff_getElem.1 hx
      rw [List.getElem_drop]
      rw [List.length_drop] at hj
      have := hab (i + j) (by omega) (by omega)
      rwa [pg_get (by omega)] at this
    · intro x hx y hy
      obtain ⟨j, hj, rfl⟩ := (mem_take_pg hp.le).1 hx
      rcases List.mem_cons.1 hy with rfl | hy
      · exact hp.below j hj
      · obtain ⟨l, hl, rfl⟩ := List.mem_iff_getElem.1 hy
        rw [List.length_drop] at hl
        have := asc_lt h (i := j) (j := i + l) (by omega) (by omega)
        rw [pg_get (L := M) (i := i + l) (by omega)] at this
        rw [List.getElem_drop]; exact this
theorem place_old {M : List (Rat × Rat)} {p : Rat × Rat} {i : Nat} (hi : i < M.length) (h1 : ¬ cmpP (pg M i) p < 0) (h2 : ¬ 0 < cmpP (pg M i) p) : p ∈ M :=
  mem_pg.2 ⟨i, hi, cmpP_zero.1 (by omega)⟩
/-- The list M holds the first q points of L, in ascending order, each once. -/
structure SortOf (L : List (Rat × Rat)) (q : Nat) (M : List (Rat × Rat)) : Prop where
  asc : Asc M
  mem : ∀ x, x ∈ M ↔ x ∈ L.take q
  len : M.length = dsc L q
theorem SortOf.nil (L : List (Rat × Rat)) : SortOf L 0 [] := ⟨List.Pairwise.nil, fun x => by simp, rfl⟩
theorem take_succ_mem {L : List (Rat × Rat)} {q : Nat} (hq : q < L.length) {x : Rat × Rat} : x ∈ L.take (q + 1) ↔ x ∈ L.take q ∨ x = pg L q := by
  rw [List.take_succ_eq_append_getElem hq, List.mem_append, List.mem_singleton, pg_get hq]
theorem SortOf.new {L M : List (Rat × Rat)} {q i : Nat} (h : SortOf L q M) (hq : q < L.length) (hp : Place M (pg L q) i) (he : i = M.length ∨ 0 < cmpP (pg M i) (pg L q)) : SortOf L (q + 1) (insP M i (pg L q)) := by
  obtain ⟨h1, h2⟩ := place_new h.asc hp he
  refine ⟨h2, fun x => by rw [insP_mem, h.mem, take_succ_mem hq], ?_⟩
  rw [insP_len hp.le, h.len, dsc, if_neg]
  rw [← h.mem]; exact h1
theorem SortOf.old {L M : List (Rat × Rat)} {q i : Nat} (h : SortOf L q M) (hq : q < L.length) (hi : i < M.length) (h1 : ¬ cmpP (pg M i) (pg L q) < 0) (h2 : ¬ 0 < cmpP (pg M i) (pg L q)) : SortOf L (q + 1) M := by
  have hm := place_old hi h1 h2
  refine ⟨h.asc, fun x => by
    rw [h.mem, take_succ_mem hq]
    constructor
    · exact .inl
    · rintro (hx | rfl)
      · exact hx
      · rwa [← h.mem], ?_⟩
  rw [h.len, dsc, if_pos (by rwa [← h.mem]), Nat.add_zero]
/-- Consecutive points differ. -/
def Steps (L : List (Rat × Rat)) : Prop := ∀ i, i + 1 < L.length → pg L i ≠ pg L (i + 1)
theorem Steps.nil : Steps [] := fun i h => by simp at h
theorem Steps.snoc {L : List (Rat × Rat)} {p : Rat × Rat} (h : Steps L) (hp : L = [] ∨ pg L (L.length - 1) ≠ p) : Steps (L ++ [p]) := by
  intro i hi
  rw [List.length_append, List.length_singleton] at hi
  rcases Nat.lt_or_ge (i + 1) L.length with hlt | hge
  · rw [pg_get (by simp; omega), pg_get (by simp; omega), List.getElem_append_left (by omega), List.getElem_append_left (by omega)]
    have := h i hlt
    rwa [pg_get (by omega), pg_get (by omega)] at this
  · have e : i + 1 = L.length := by omega
    rw [pg_get (i := i) (by simp; omega), List.getElem_append_left (by omega)]
    rw [pg_get (i := i + 1) (by simp; omega), List.getElem_append_right (by omega)]
    rcases hp with hp | hp
    · subst hp; simp at e
    · rw [pg_get (by omega)] at hp
      simp only [e, Nat.sub_self, List.getElem_singleton]
      have e2 : L.length - 1 = i := by omega
      simpa only [e2] using hp
theorem Steps.take {L : List (Rat × Rat)} (h : Steps L) (k : Nat) : Steps (L.take k) := by
  intro i hi
  have hl := hi
  rw [List.length_take] at hl
  rw [pg_get (by omega), pg_get hi, List.getElem_take, List.getElem_take]
  have := h i (by omega)
  rwa [pg_get (by omega), pg_get (by omega)] at this
theorem Steps.ring {L : List (Rat × Rat)} (h : Steps L) (h3 : 3 ≤ dsc L L.length) (hc : ¬ pg L 0 = pg L (L.length - 1)) : RingOK L := by
  refine ⟨h3, fun i hi => ?_⟩
  rcases Nat.lt_or_ge (i + 1) L.length with hlt | hge
  · rw [Nat.mod_eq_of_lt hlt]; exact h i hlt
  · have e : i + 1 = L.length := by omega
    rw [e, Nat.mod_self]
    have : i = L.length - 1 := by omega
    rw [this]
    exact fun hh => hc hh.symm
theorem dsc_le (L : List (Rat × Rat)) (k : Nat) : dsc L k ≤ k := by
  induction k with
  | zero => exact Nat.le_refl _
  | succ k ih => rw [dsc]; split <;> omega
/-- A ring of three points. -/
theorem ring3 {p q r : Rat × Rat} (h1 : q ≠ p) (h2 : r ≠ p) (h3 : r ≠ q) : RingOK [p, q, r] := by
  refine ⟨dsc_three (by simp) h1 h2 h3, fun i hi => ?_⟩
  simp only [List.length_cons, List.length_nil] at hi
  rcases (by omega : i = 0 ∨ i = 1 ∨ i = 2) with rfl | rfl | rfl
  · exact fun e => h1 e.symm
  · exact fun e => h3 e.symm
  · have e : (2 + 1) % [p, q, r].length = 0 := by simp
    rw [e]; exact h2
/-- A ring of four points. -/
theorem ring4 {p q r s : Rat × Rat} (h1 : q ≠ p) (h2 : r ≠ p) (h3 : r ≠ q) (h4 : s ≠ r) (h5 : s ≠ p) : RingOK [p, q, r, s] := by
  refine ⟨dsc_three (by simp) h1 h2 h3, fun i hi => ?_⟩
  simp only [List.length_cons, List.length_nil] at hi
  rcases (by omega : i = 0 ∨ i = 1 ∨ i = 2 ∨ i = 3) with rfl | rfl | rfl | rfl
  · exact fun e => h1 e.symm
  · exact fun e => h3 e.symm
  · exact fun e => h4 e.symm
  · have e : (3 + 1) % [p, q, r, s].length = 0 := by simp
    rw [e]; exact h5
end Go.Proofs.YtdlnoeegboapkaaGreatDoor

/- append to slices without room: a view whose capacity is its length, a literal of one element. Only new memory is written. -/
namespace Go.Proofs.YtdlnoeegboapkaaGreatDoor
open Go.RowKit
set_option linter.unusedVariables false
set_option linter.unusedSimpArgs false

instance (priority := low) Ex.d0 {W0 W : World} {L : List Nat} [h : Ex W0 L W] : Ex W0.drew L W := ⟨h.size, h.block⟩
theorem add_off (g o j : Nat) : (⟨g, o, none⟩ : Addr).add j = ⟨g, o + j, none⟩ := by unfold Addr.add; split <;> simp_all
/-- append of m > 0 elements to a view of n elements, of the capacity n. -/
theorem run_app_full {P : Program} (w : World) (t ty e : TypeId) (i : TypeInfo) (z : Value) (ht : P.underlying t = some (.slice e)) (hi : P.info? e = some i) (hz : i.zero = some z) (hzs : z.cells.size = i.size)
    {v : Value} {n : Nat} {xs : List Value} (hv : (v = .slice none 0 0 ∧ n = 0) ∨ ∃ a, v = .slice (some a) n n ∧ ∀ j u, xs[j]? = some u → w.cell? (a.add j) = some u) (hx : xs.length = n * i.size)
    (a : Addr) (m c : Nat) (news : List Value) (hl : news.length = m * i.size) (hnews : ∀ j u, news[j]? = some u → w.cell? (a.add j) = some u) (h0 : 0 < m) (h63 : n + m ≤ maxLen) (hbytes : (n + m) * i.bytes ≤ 140737488355328) :
    ∃ c' w', (Builtin.append_ #[t, t] ty #[v, .slice (some a) m c]).run P w = .ok (.slice (some ⟨w.heap.size, 0, none⟩) (n + m) c') w' ∧ w'.ownsRow w.heap.size e i.size (.slice (some ⟨w.heap.size, 0, none⟩) (n + m) c') (n + m) (xs ++ news) ∧ Below w.heap.size w w' ∧
      w'.heap[w.heap.size]? = some (.cells ((xs ++ news).toArray ++ Builtin.zeroCells z.cells (c' - (n + m))) e) := by
  have hsmall : n + m ≤ 9223372036854775807 := by simp only [maxLen] at h63; omega
  have hlen : (xs ++ news).length = (n + m) * i.size := by rw [List.length_append, hx, hl, Nat.add_mul]
  have grown : ∀ (old : Nat), old < n + m →
      (w.drew.alloc (.cells ((xs ++ news).toArray ++ Builtin.zeroCells z.cells (grownCap w (n + m) old e - (n + m))) e)).ownsRow w.heap.size e i.size
        (.slice (some ⟨w.heap.size, 0, none⟩) (n + m) (grownCap w (n + m) old e)) (n + m) (xs ++ news) := by
    intro old ho
    have hge := grownCap_ge w (n + m) old e
    have hcm : grownCap w (n + m) old e ≤ maxLen := grownCap_le_maxLen w (n + m) old e h63
    refine ⟨hlen, .inr ⟨w.heap.size, _, _, rfl, Nat.le_refl _, heap_alloc_new w.drew _, hge, hcm, ?_, ?_⟩⟩
    · simp only [Array.size_append, List.size_toArray, size_zeroCells, hzs, hlen, ← Nat.add_mul]
      congr 1
      omega
    · simp only [Array.toList_append]
      rw [← hlen]
      exact List.take_left
  have bel : ∀ o, Below w.heap.size w (w.drew.alloc o) := fun o => blw_alloc (blw_drew (Below.refl _ _)) o
  rcases hv with ⟨rfl, rfl⟩ | ⟨b, rfl, hc⟩
  · have hx0 : xs = [] := List.eq_nil_of_length_eq_zero (by simpa using hx)
    subst hx0
    have hr := run_append_nil (P := P) w t ty e i z ht hi hz a m c news hl hnews h0 (by omega) (by have hb := hbytes; simp only [Nat.zero_add] at hb; omega)
    have hg := grown 0 (by omega)
    simp only [Nat.zero_add, List.nil_append] at hg ⊢
    exact ⟨_, _, hr, hg, bel _, heap_alloc_new w.drew _⟩
  · have hr := run_append_grow (P := P) w t ty e i z ht hi hz b n n xs hx hc a m c news hl hnews (by omega) (by omega) (growslice_fits (by omega) hbytes)
    have e1 : xs.toArray ++ news.toArray = (xs ++ news).toArray := by simp
    rw [e1] at hr
    exact ⟨_, _, hr, grown n (by omega), bel _, heap_alloc_new w.drew _⟩
/-- append of nothing. -/
theorem run_app_none {P : Program} (w : World) (t ty e : TypeId) (i : TypeInfo) (ht : P.underlying t = some (.slice e)) (hi : P.info? e = some i) (b : Addr) (n cap : Nat) (hn : n ≤ cap) {x : Value} (hx : (∃ c, x = .slice none 0 c) ∨ ∃ a c, x = .slice (some a) 0 c) :
    (Builtin.append_ #[t, t] ty #[.slice (some b) n cap, x]).run P w = .ok (.slice (some b) n cap) w := by
  rcases hx with ⟨c, rfl⟩ | ⟨a, c, rfl⟩
  · simp [Builtin.append_, run_underlying ht, sizeOf, typeInfo, hi, Builtin.lenOf, Builtin.firstCells, loadCells, loadCellsFrom, hn, storeCells]
  · simp [Builtin.append_, run_underlying ht, sizeOf, typeInfo, hi, Builtin.lenOf, Builtin.firstCells, loadCells, loadCellsFrom, hn, storeCells]
theorem soft_full {w' : World} {g : Nat} {l : List Value} {z : Array Value} {k : Nat} {e : TypeId} (he : BoxT e) (hl : ∀ u ∈ l, isDigit32 u = false) (hz : ∀ u ∈ z.toList, isDigit32 u = false) (h : w'.heap[g]? = some (.cells (l.toArray ++ Builtin.zeroCells z k) e)) : SoftB w' g := by
  refine ⟨e, l ++ (Builtin.zeroCells z k).toList, ?_, he, ?_⟩
  · rw [h]
    congr 2
    apply Array.ext'
    simp
  · intro u hu
    rcases List.mem_append.1 hu with h | h
    · exact hl u h
    · unfold Builtin.zeroCells at h
      simp only [Array.toList_map, List.mem_map, Array.toList_range, List.mem_range] at h
      obtain ⟨i, hi, rfl⟩ := h
      have hp : 0 < z.size := by
        rcases Nat.eq_zero_or_pos z.size with e | e
        · rw [e] at hi; omega
        · exact e
      rw [getElem!_pos z (i % z.size) (Nat.mod_lt i hp)]
      exact hz _ (by simp)
section
variable {W w0 : World} {o : Oper} {a : Act} {K : Act → World → Prop} {Q : Exit → Act → World → Prop}
/-- append to a view without room, as an operation. -/
theorem appO_full (s x : Operand) (t : TypeId) (hop : o.op = .call { callee := .builtin .append, args := #[s, x], argTypes := #[t, t] }) {e : TypeId} (ht : Tryz.prog.underlying t = some (.slice e)) {z : Value} {sz bt : Nat}
    (hi : (Tryz.prog.info? e).map (fun i => (i.zero, i.size, i.bytes)) = some (some z, sz, bt)) (hzs : z.cells.size = sz) (hbt : bt ≤ 1000) (hz0 : ∀ u ∈ z.cells.toList, isDigit32 u = false) (he : BoxT e) {v : Value} {n : Nat} {xs : List Value} (hs : a.eval s = v)
    (hv : (v = .slice none 0 0 ∧ n = 0) ∨ ∃ b, v = .slice (some b) n n ∧ ∀ j u, xs[j]? = some u → W.cell? (b.add j) = some u) (hxl : xs.length = n * sz) (hnx : ∀ u ∈ xs, isDigit32 u = false)
    {ad : Addr} {m c : Nat} {l : List Value} (hx : a.eval x = .slice (some ad) m c) (hb : ∀ j u, l[j]? = some u → W.cell? (ad.add j) = some u) (hl : l.length = m * sz) (hnl : ∀ u ∈ l, isDigit32 u = false) (hm : 0 < m) (hn : n + m ≤ 1000000)
    (hK : ∀ g c' W' [Kp1 W W'] [Rn W' (.slice (some ⟨g, 0, none⟩) (n + m) c') e sz (n + m) (xs ++ l) W.heap.size W'], K (a.put o.dst (.slice (some ⟨g, 0, none⟩) (n + m) c')) W') :
    Oper.wp Tryz.prog o a W K Q := by
  obtain ⟨i0, hi0⟩ : ∃ i0, Tryz.prog.info? e = some i0 := by
    cases h : Tryz.prog.info? e with
    | none => rw [h] at hi; cases hi
    | some i0 => exact ⟨i0, rfl⟩
  rw [hi0] at hi
  simp only [Option.map_some, Option.some.injEq, Prod.mk.injEq] at hi
  obtain ⟨hz, rfl, rfl⟩ := hi
  have hby : (n + m) * i0.bytes ≤ 140737488355328 := by
    have : (n + m) * i0.bytes ≤ 1000000 * 1000 := Nat.mul_le_mul hn hbt
    omega
  obtain ⟨c', w', hrun, h2, h3, h4⟩ := run_app_full (P := Tryz.prog) W t o.type e i0 z ht hi0 hz hzs hv hxl ad m c l hl hb hm (by unfold maxLen; omega) hby
  unfold Oper.wp execOp
  simp only [hop, resolve, invoke, builtin, Sem.run_bind, Sem.run_pure, Result.andThen_ok, List.map_toArray, List.map_cons, List.map_nil, hs, hx, hrun]
  have i1 : Kp1 W w' := ⟨h3⟩
  have i2 : Rn w' (.slice (some ⟨W.heap.size, 0, none⟩) (n + m) c') e i0.size (n + m) (xs ++ l) W.heap.size w' := ⟨Rw.mk1 h2 h3.size, fun g eg => by
    simp only [Value.ownBlock, Option.some.injEq] at eg
    subst eg
    exact soft_full he (fun u hu => (List.mem_append.1 hu).elim (hnx u) (hnl u)) hz0 h4⟩
  exact @hK _ c' w' i1 i2
/-- append of nothing, as an operation. -/
theorem appO_none (s x : Operand) (t : TypeId) (hop : o.op = .call { callee := .builtin .append, args := #[s, x], argTypes := #[t, t] }) {e : TypeId} (ht : Tryz.prog.underlying t = some (.slice e)) {z : Value} {sz bt : Nat}
    (hi : (Tryz.prog.info? e).map (fun i => (i.zero, i.size, i.bytes)) = some (some z, sz, bt)) {b : Addr} {n cap : Nat} (hs : a.eval s = .slice (some b) n cap) (hn : n ≤ cap) {y : Value} (hx : a.eval x = y) (hy : (∃ c, y = .slice none 0 c) ∨ ∃ a c, y = .slice (some a) 0 c)
    (hK : K (a.put o.dst (.slice (some b) n cap)) W) : Oper.wp Tryz.prog o a W K Q := by
  obtain ⟨i0, hi0⟩ : ∃ i0, Tryz.prog.info? e = some i0 := by
    cases h : Tryz.prog.info? e with
    | none => rw [h] at hi; cases hi
    | some i0 => exact ⟨i0, rfl⟩
  have hrun := run_app_none (P := Tryz.prog) W t o.type e i0 ht hi0 b n cap hn hy
  unfold Oper.wp execOp
  simp only [hop, resolve, invoke, builtin, Sem.run_bind, Sem.run_pure, Result.andThen_ok, List.map_toArray, List.map_cons, List.map_nil, hs, hx, hrun]
  exact hK
end
end Go.Proofs.YtdlnoeegboapkaaGreatDoor
