/-
  Integers in memory, as a sign and a slice of digits; contracts of package integer.
  Printed by a small program (mkint.py).
-/
import Derived.Test.YtnkfbkdcplbgoaaDoorMem
namespace Go.Proofs.YtnkfbkdcplbgoaaDoor
open Go.RowKit

def sgn (g : Bool) (n : Nat) : Int := if g then -(n : Int) else (n : Int)
/-- The sign g and the slice s are the integer z in normal form, of at most k digits. -/
def Zz (w : World) (g : Bool) (s : Value) (z : Int) (k : Nat) : Prop := g = decide (z < 0) ∧ Nn w s z.natAbs k
/-- The sign g and the slice s read as the integer z, perhaps not in normal form. -/
def Zi (w : World) (g : Bool) (s : Value) (z : Int) (k : Nat) : Prop := ∃ n, Rr w s n k ∧ z = sgn g n
theorem sgn_of (z : Int) : sgn (decide (z < 0)) z.natAbs = z := by
  unfold sgn
  by_cases h : z < 0
  · simp [h]; omega
  · simp [h]; omega
theorem sgn_abs (g : Bool) (n : Nat) : (sgn g n).natAbs = n := by cases g <;> simp [sgn]
theorem sgn_true (n : Nat) : sgn true n = -(n : Int) := rfl
theorem sgn_false (n : Nat) : sgn false n = (n : Int) := rfl
theorem Zz.zi {w : World} {g : Bool} {s : Value} {z : Int} {k : Nat} (h : Zz w g s z k) : Zi w g s z k := ⟨_, h.2.rr, by rw [h.1, sgn_of]⟩
theorem Zz.keep {w w' : World} {g : Bool} {s : Value} {z : Int} {k : Nat} (h : Zz w g s z k) (hb : Below w.heap.size w w') : Zz w' g s z k := ⟨h.1, h.2.keep hb⟩
theorem Zi.keep {w w' : World} {g : Bool} {s : Value} {z : Int} {k : Nat} (h : Zi w g s z k) (hb : Below w.heap.size w w') : Zi w' g s z k := by
  obtain ⟨n, h1, h2⟩ := h
  exact ⟨n, h1.keep hb, h2⟩
theorem Zz.set {W : World} {g : Bool} {s : Value} {z : Int} {k : Nat} (h : Zz W g s z k) (p : Addr) (x : Value) {u : Value} (hc : W.cell? p = some u) (hu : isDigit32 u = false) : Zz (W.setCell p x) g s z k := by
  exact ⟨h.1, h.2.set p x hc hu⟩
theorem Zz.set2 {W : World} {g : Bool} {s : Value} {z : Int} {k : Nat} {p : Addr} {x u : Value} (hc : W.cell? p = some u) (hu : isDigit32 u = false) (h : Zz W g s z k) : Zz (W.setCell p x) g s z k := h.set p x hc hu
theorem Zz.keep2 {W W2 : World} {g : Bool} {s : Value} {z : Int} {k : Nat} (hb : Below W.heap.size W W2) (h : Zz W g s z k) : Zz W2 g s z k := h.keep hb
theorem Zz.al {W : World} {g : Bool} {s : Value} {z : Int} {k : Nat} {o : Obj} (h : Zz W g s z k) : Zz (W.alloc o) g s z k := h.keep (blw_one _ _)
theorem Zz.dr {W : World} {g : Bool} {s : Value} {z : Int} {k : Nat} (h : Zz W g s z k) : Zz W.drew g s z k := h.keep (blw_drew (Below.refl _ _))
theorem Zz.drN {W : World} {g : Bool} {s : Value} {z : Int} {k : Nat} {j : Nat} (h : Zz W g s z k) : Zz (W.drewN j) g s z k := h.keep (blw_drewN (Below.refl _ _) j)
theorem Zi.set {W : World} {g : Bool} {s : Value} {z : Int} {k : Nat} (h : Zi W g s z k) (p : Addr) (x : Value) {u : Value} (hc : W.cell? p = some u) (hu : isDigit32 u = false) : Zi (W.setCell p x) g s z k := by
  obtain ⟨n, h1, h2⟩ := h
  exact ⟨n, h1.set p x hc hu, h2⟩
theorem Zi.set2 {W : World} {g : Bool} {s : Value} {z : Int} {k : Nat} {p : Addr} {x u : Value} (hc : W.cell? p = some u) (hu : isDigit32 u = false) (h : Zi W g s z k) : Zi (W.setCell p x) g s z k := h.set p x hc hu
theorem Zi.keep2 {W W2 : World} {g : Bool} {s : Value} {z : Int} {k : Nat} (hb : Below W.heap.size W W2) (h : Zi W g s z k) : Zi W2 g s z k := h.keep hb
theorem Zi.al {W : World} {g : Bool} {s : Value} {z : Int} {k : Nat} {o : Obj} (h : Zi W g s z k) : Zi (W.alloc o) g s z k := h.keep (blw_one _ _)
theorem Zi.dr {W : World} {g : Bool} {s : Value} {z : Int} {k : Nat} (h : Zi W g s z k) : Zi W.drew g s z k := h.keep (blw_drew (Below.refl _ _))
theorem Zi.drN {W : World} {g : Bool} {s : Value} {z : Int} {k : Nat} {j : Nat} (h : Zi W g s z k) : Zi (W.drewN j) g s z k := h.keep (blw_drewN (Below.refl _ _) j)
theorem Zz.cast {w : World} {g : Bool} {s : Value} {z z' : Int} {k k' : Nat} (h : Zz w g s z k) (e : z = z') (hk : k ≤ k') : Zz w g s z' k' := by
  subst e; exact ⟨h.1, h.2.mono hk⟩
theorem Zi.shape {w : World} {g : Bool} {s : Value} {z : Int} {k : Nat} (h : Zi w g s z k) : ∃ a l c, s = .slice a l c := by
  obtain ⟨n, h1, h2⟩ := h
  exact h1.shape
theorem dec_pos {n : Nat} : decide (0 < (nf n).length) = decide (n ≠ 0) := decide_eq_decide.2 nflen_pos
def RetZ (w : World) (z : Int) (k : Nat) (e : Ending) (w' : World) : Prop := ∃ g a l c, e = .returned (.agg #[.bool g, .slice a l c]) ∧ Zz w' g (.slice a l c) z k ∧ Below w.heap.size w w'
/-- The sign that a normal integer's struct bears. -/
theorem Zz.mk' {w : World} {g : Bool} {a : Option Addr} {l c n k : Nat} (h : Nn w (.slice a l c) n k) : Zz w (g && decide (0 < l)) (.slice a l c) (sgn g n) k := by
  refine ⟨?_, by rw [sgn_abs]; exact h⟩
  rw [h.len, dec_pos]
  cases g
  · simp [sgn]
  · by_cases h0 : n = 0 <;> simp [sgn_true, h0]; omega

set_option maxRecDepth 100000 in
theorem signedW {w : World} {g : Bool} {a : Option Addr} {l c n k : Nat} (h : Nn w (.slice a l c) n k) :
    Calls Tryd.prog 56 #[.bool g, .slice a l c] w fun e w' => ∃ g', e = .returned (.agg #[.bool g', .slice a l c]) ∧ Zz w' g' (.slice a l c) (sgn g n) k ∧ Below w.heap.size w w' := by
  have H := Lib.hid (Zz.mk' (g := g) h)
  clear h
  go_enter Tryd.func56, Tryd.ntmps56
  cases g
  all_goals
    go_wp2
    refine ret_store 12 rfl (by simp [results, Tryd.results56, go_sem]) rfl ⟨_, rfl, ?_, blw_one _ _⟩
    simpa using H.out.keep (blw_one _ _)

/-- The sign of an integer. -/
def isgn (x : Int) : Int := if x < 0 then -1 else if 0 < x then 1 else 0
theorem nbits_eq0 {m : Nat} (h : m = 0) : (((nbits m : Nat) : Int) == 0) = true := by subst h; rfl
theorem nbits_pos' {m : Nat} (h : m ≠ 0) : (((nbits m : Nat) : Int) == 0) = false := by
  rw [nbits_pos h, beq_eq_false_iff_ne]
  have h1 := nf_len_pos h
  have h2 := nf_last m h
  have h3 := (blen_ge (by have := dig_get (dig_nf m) ((nf m).length - 1); omega) h2).1
  omega
set_option maxRecDepth 100000 in
set_option maxHeartbeats 2000000 in
theorem intSignW {w : World} {g1 : Bool} {s1 : Value} {x : Int} {k1 : Nat} (h1 : Zi w g1 s1 x k1) (hk1 : k1 ≤ 900000) :
    Calls Tryd.prog 62 #[.agg #[.bool g1, s1]] w (fun e w' => e = .returned (.int .i64 (isgn x)) ∧ Below w.heap.size w w') := by
  obtain ⟨m, r1, rfl⟩ := h1
  obtain ⟨a1, l1, c1, rfl⟩ := r1.shape
  by_cases hm : m = 0
  · have hb := nbits_eq0 hm
    have HE := Lib.hid (show isgn (sgn g1 m) = 0 by subst hm; cases g1 <;> rfl)
    clear hm
    go_enter Tryd.func62, Tryd.ntmps62
    go_wp2_with (first
      | (go_at_call 84; refine (bitsW (by first | ((repeat (first | with_reducible assumption | exact Rr.lit1 |  with_reducible apply Rr.al | with_reducible apply Rr.dr | with_reducible apply Rr.drN | ((with_reducible apply Rr.set2); (first | (with_reducible assumption) | ((repeat ((with_reducible apply setnA); exact (by first | (simp; done) | (intro e; injection e; omega) | (intro e; injection e with e1 e2; omega)))); (with_reducible assumption))); rfl) | ((with_reducible apply Rr.keep2); (with_reducible assumption)))); done) | ((with_reducible apply Nn.rr); (repeat (first | with_reducible assumption | exact Nn.lit1 |  with_reducible apply Nn.al | with_reducible apply Nn.dr | with_reducible apply Nn.drN | ((with_reducible apply Nn.set2); (first | (with_reducible assumption) | ((repeat ((with_reducible apply setnA); exact (by first | (simp; done) | (intro e; injection e; omega) | (intro e; injection e with e1 e2; omega)))); (with_reducible assumption))); rfl) | ((with_reducible apply Nn.keep2); (with_reducible assumption)))); done)) (by omega)).mono ?_; rintro e w' ⟨rfl, rfl⟩))
    go_ret
    exact ⟨by rw [HE.out]; rfl, (by (repeat (first | exact Below.refl _ _ | with_reducible refine blw_alloc ?_ _ | with_reducible refine blw_drewN ?_ _ | with_reducible refine blw_drew ?_ | with_reducible refine blw_set _ ?_ (by first | (dsimp only; omega) | (simp only [World.size_alloc, World.size_setCell, World.size_drew]; omega)) | with_reducible refine blw_trans ?_ (by with_reducible assumption))))⟩
  · have hb := nbits_pos' hm
    have HE := Lib.hid (show isgn (sgn g1 m) = if g1 then -1 else 1 by cases g1 <;> simp [isgn, sgn] <;> omega)
    clear hm
    cases g1
    · go_enter Tryd.func62, Tryd.ntmps62
      go_wp2_with (first
      | (go_at_call 84; refine (bitsW (by first | ((repeat (first | with_reducible assumption | exact Rr.lit1 |  with_reducible apply Rr.al | with_reducible apply Rr.dr | with_reducible apply Rr.drN | ((with_reducible apply Rr.set2); (first | (with_reducible assumption) | ((repeat ((with_reducible apply setnA); exact (by first | (simp; done) | (intro e; injection e; omega) | (intro e; injection e with e1 e2; omega)))); (with_reducible assumption))); rfl) | ((with_reducible apply Rr.keep2); (with_reducible assumption)))); done) | ((with_reducible apply Nn.rr); (repeat (first | with_reducible assumption | exact Nn.lit1 |  with_reducible apply Nn.al | with_reducible apply Nn.dr | with_reducible apply Nn.drN | ((with_reducible apply Nn.set2); (first | (with_reducible assumption) | ((repeat ((with_reducible apply setnA); exact (by first | (simp; done) | (intro e; injection e; omega) | (intro e; injection e with e1 e2; omega)))); (with_reducible assumption))); rfl) | ((with_reducible apply Nn.keep2); (with_reducible assumption)))); done)) (by omega)).mono ?_; rintro e w' ⟨rfl, rfl⟩))
      go_ret
      exact ⟨by rw [HE.out]; rfl, (by (repeat (first | exact Below.refl _ _ | with_reducible refine blw_alloc ?_ _ | with_reducible refine blw_drewN ?_ _ | with_reducible refine blw_drew ?_ | with_reducible refine blw_set _ ?_ (by first | (dsimp only; omega) | (simp only [World.size_alloc, World.size_setCell, World.size_drew]; omega)) | with_reducible refine blw_trans ?_ (by with_reducible assumption))))⟩
    · go_enter Tryd.func62, Tryd.ntmps62
      go_wp2_with (first
      | (go_at_call 84; refine (bitsW (by first | ((repeat (first | with_reducible assumption | exact Rr.lit1 |  with_reducible apply Rr.al | with_reducible apply Rr.dr | with_reducible apply Rr.drN | ((with_reducible apply Rr.set2); (first | (with_reducible assumption) | ((repeat ((with_reducible apply setnA); exact (by first | (simp; done) | (intro e; injection e; omega) | (intro e; injection e with e1 e2; omega)))); (with_reducible assumption))); rfl) | ((with_reducible apply Rr.keep2); (with_reducible assumption)))); done) | ((with_reducible apply Nn.rr); (repeat (first | with_reducible assumption | exact Nn.lit1 |  with_reducible apply Nn.al | with_reducible apply Nn.dr | with_reducible apply Nn.drN | ((with_reducible apply Nn.set2); (first | (with_reducible assumption) | ((repeat ((with_reducible apply setnA); exact (by first | (simp; done) | (intro e; injection e; omega) | (intro e; injection e with e1 e2; omega)))); (with_reducible assumption))); rfl) | ((with_reducible apply Nn.keep2); (with_reducible assumption)))); done)) (by omega)).mono ?_; rintro e w' ⟨rfl, rfl⟩))
      go_ret
      exact ⟨by rw [HE.out]; rfl, (by (repeat (first | exact Below.refl _ _ | with_reducible refine blw_alloc ?_ _ | with_reducible refine blw_drewN ?_ _ | with_reducible refine blw_drew ?_ | with_reducible refine blw_set _ ?_ (by first | (dsimp only; omega) | (simp only [World.size_alloc, World.size_setCell, World.size_drew]; omega)) | with_reducible refine blw_trans ?_ (by with_reducible assumption))))⟩
/-- How two integers compare. -/
def icmp (x y : Int) : Int := if x < y then -1 else if y < x then 1 else 0
theorem icmp_lt {x y : Int} (h : x < y) : icmp x y = -1 := by unfold icmp; rw [if_pos h]
theorem icmp_gt {x y : Int} (h : y < x) : icmp x y = 1 := by unfold icmp; rw [if_neg (by omega), if_pos h]
theorem icmp_eq {x y : Int} (h : x = y) : icmp x y = 0 := by unfold icmp; rw [if_neg (by omega), if_neg (by omega)]
theorem isgn_cases (x : Int) : (x < 0 ∧ isgn x = -1) ∨ (x = 0 ∧ isgn x = 0) ∨ (0 < x ∧ isgn x = 1) := by
  unfold isgn
  rcases Int.lt_trichotomy x 0 with h | h | h
  · exact .inl ⟨h, by rw [if_pos h]⟩
  · exact .inr (.inl ⟨h, by rw [if_neg (by omega), if_neg (by omega)]⟩)
  · exact .inr (.inr ⟨h, by rw [if_neg (by omega), if_pos h]⟩)
theorem cmpN_cases (m n : Nat) : (m < n ∧ cmpN m n = -1) ∨ (m = n ∧ cmpN m n = 0) ∨ (n < m ∧ cmpN m n = 1) := by
  rcases Nat.lt_trichotomy m n with h | h | h
  · exact .inl ⟨h, cmpN_lt h⟩
  · exact .inr (.inl ⟨h, cmpN_eq h⟩)
  · exact .inr (.inr ⟨h, cmpN_gt h⟩)
theorem sgn_neg {g : Bool} {m : Nat} (h : sgn g m < 0) : sgn g m = -(m : Int) := by cases g <;> simp [sgn] at * <;> omega
theorem sgn_pos {g : Bool} {m : Nat} (h : 0 < sgn g m) : sgn g m = (m : Int) := by cases g <;> simp [sgn] at * <;> omega
theorem sgn_zero {g : Bool} {m : Nat} (h : sgn g m = 0) : m = 0 := by cases g <;> simp [sgn] at * <;> omega
/-- What Cmp comes to when both signs and the order of the amounts are known. -/
theorem icmp_of {g1 g2 : Bool} {m n : Nat} {s t c : Int} (hs : isgn (sgn g1 m) = s) (ht : isgn (sgn g2 n) = t) (hc : cmpN m n = c) :
    (s < t → icmp (sgn g1 m) (sgn g2 n) = -1) ∧ (t < s → icmp (sgn g1 m) (sgn g2 n) = 1) ∧ (s = t → icmp (sgn g1 m) (sgn g2 n) = s * c) := by
  subst hs ht hc
  rcases isgn_cases (sgn g1 m) with ⟨h1, e1⟩ | ⟨h1, e1⟩ | ⟨h1, e1⟩ <;> rcases isgn_cases (sgn g2 n) with ⟨h2, e2⟩ | ⟨h2, e2⟩ | ⟨h2, e2⟩ <;> rw [e1, e2]
  · rw [sgn_neg h1, sgn_neg h2]
    rcases cmpN_cases m n with ⟨h3, e3⟩ | ⟨h3, e3⟩ | ⟨h3, e3⟩ <;> rw [e3]
    · rw [icmp_gt (by omega)]; omega
    · rw [icmp_eq (by omega)]; omega
    · rw [icmp_lt (by omega)]; omega
  · rw [icmp_lt (by omega)]; omega
  · rw [icmp_lt (by omega)]; omega
  · rw [icmp_gt (by omega)]; omega
  · rw [icmp_eq (by omega)]; omega
  · rw [icmp_lt (by omega)]; omega
  · rw [icmp_gt (by omega)]; omega
  · rw [icmp_gt (by omega)]; omega
  · rw [sgn_pos h1, sgn_pos h2]
    rcases cmpN_cases m n with ⟨h3, e3⟩ | ⟨h3, e3⟩ | ⟨h3, e3⟩ <;> rw [e3]
    · rw [icmp_lt (by omega)]; omega
    · rw [icmp_eq (by omega)]; omega
    · rw [icmp_gt (by omega)]; omega
theorem isgn_bd (x : Int) : -1 ≤ isgn x ∧ isgn x ≤ 1 := by
  rcases isgn_cases x with ⟨_, e⟩ | ⟨_, e⟩ | ⟨_, e⟩ <;> rw [e] <;> omega
theorem cmpN_bd (m n : Nat) : -1 ≤ cmpN m n ∧ cmpN m n ≤ 1 := by
  rcases cmpN_cases m n with ⟨_, e⟩ | ⟨_, e⟩ | ⟨_, e⟩ <;> rw [e] <;> omega
theorem mul_bd1 {s c : Int} (h1 : -1 ≤ s ∧ s ≤ 1) (h2 : -1 ≤ c ∧ c ≤ 1) : -1 ≤ s * c ∧ s * c ≤ 1 := by
  obtain ⟨a, b⟩ := h1
  have : s = -1 ∨ s = 0 ∨ s = 1 := by omega
  rcases this with rfl | rfl | rfl <;> omega
theorem wrap_negneg {x : Int} (h1 : -9223372036854775808 ≤ x) (h0 : x < 0) : IntKind.u64.wrap (-IntKind.u64.wrap x) = ((x.natAbs : Nat) : Int) := by
  rw [IntKind.wrap_u64, IntKind.wrap_u64]; omega
theorem wrap_back {m : Nat} (h : m ≤ 9223372036854775808) : wrap64 (IntKind.u64.wrap (-(m : Int))) = -(m : Int) := by
  rw [IntKind.wrap_u64]
  unfold wrap64
  omega
theorem fromUintI {w : World} {x : Int} (h0 : 0 ≤ x) (h : x < 18446744073709551616) : Calls Tryd.prog 73 #[.int .u64 x] w (RetN w x.natAbs 2) := by
  obtain ⟨n, rfl⟩ := Int.eq_ofNat_of_zero_le h0
  exact fromUintW (by omega)
set_option maxRecDepth 100000 in
theorem fromIntW {w : World} {x : Int} (h1 : -9223372036854775808 ≤ x) (h2 : x < 9223372036854775808) :
    Calls Tryd.prog 54 #[.int .i64 x] w (RetZ w x 2) := by
  by_cases hx : x < 0
  · have HE := Lib.hid (wrap_negneg h1 hx)
    have HD := Lib.hid (show true = decide (x < 0) by simp [hx])
    go_enter Tryd.func54, Tryd.ntmps54
    go_wp2_with fail
    rw [HE.out]
    refine (fromUintW (by omega)).mono ?_
    rintro e w' ⟨az, lz, cz, rfl, hz, hb⟩
    obtain ⟨_, _, _, _⟩ : w'.cell? ⟨w.heap.size, 0, none⟩ = some (.bool (cellB w' ⟨w.heap.size, 0, none⟩)) ∧ w'.cell? ⟨w.heap.size, 1, none⟩ = some (.slice (cellA w' ⟨w.heap.size, 1, none⟩) (cellL w' ⟨w.heap.size, 1, none⟩) (cellC w' ⟨w.heap.size, 1, none⟩)) ∧ w'.frozen? ⟨w.heap.size, 0, none⟩ = false ∧ w'.frozen? ⟨w.heap.size, 1, none⟩ = false := by (go_split_ands; exact ⟨(by first | with_reducible assumption | ((with_reducible apply hasB); ((repeat (first | (with_reducible assumption) | (with_reducible apply cellDr) | (with_reducible apply cellDrN) | (with_reducible apply setsame) | ((with_reducible apply setnA); exact (by first | (simp; done) | (intro e; injection e; omega) | (intro e; injection e with e1 e2; omega))) | ((with_reducible apply cellKeep); (with_reducible assumption)) | ((show _ = some (.bool false : Value)); go_simp; done) | (with_reducible apply cellAl))); done))), (by first | with_reducible assumption | ((with_reducible apply hasS); ((repeat (first | (with_reducible assumption) | (with_reducible apply cellDr) | (with_reducible apply cellDrN) | (with_reducible apply setsame) | ((with_reducible apply setnA); exact (by first | (simp; done) | (intro e; injection e; omega) | (intro e; injection e with e1 e2; omega))) | ((with_reducible apply cellKeep); (with_reducible assumption)) | ((show _ = some (.slice none 0 0 : Value)); go_simp; done) | (with_reducible apply cellAl))); done))), (by first | with_reducible assumption | ((with_reducible apply Fz.out); (repeat (first | exact Fz.mk' (by with_reducible assumption) (by with_reducible assumption) | (refine Fz.mk' (v := .bool false) ?_ ?_ <;> (go_simp; done)) | (with_reducible apply Fz.dr) | (with_reducible apply Fz.drN) | (with_reducible apply Fz.set) | ((with_reducible apply Fz.keep); (with_reducible assumption)) | (with_reducible apply Fz.al))); done)), (by first | with_reducible assumption | ((with_reducible apply Fz.out); (repeat (first | exact Fz.mk' (by with_reducible assumption) (by with_reducible assumption) | (refine Fz.mk' (v := .slice none 0 0) ?_ ?_ <;> (go_simp; done)) | (with_reducible apply Fz.dr) | (with_reducible apply Fz.drN) | (with_reducible apply Fz.set) | ((with_reducible apply Fz.keep); (with_reducible assumption)) | (with_reducible apply Fz.al))); done))⟩)
    go_wp2
    have HZ : Zz w' true (.slice az lz cz) x 2 := ⟨HD.out, hz⟩
    refine ret_cells2 rfl Tryd.underlying45 rfl (by kernel_rfl) rfl (by first | exact ⟨_, by with_reducible assumption⟩ | exact ⟨_, by ((repeat (first | with_reducible apply setBs | ((with_reducible apply setBn); exact (by first | (simp; done) | (intro e; injection e; omega) | (intro e; injection e with e1 e2; omega))))); with_reducible assumption)⟩ | exact ⟨_, by ((repeat (first | with_reducible apply setSs | ((with_reducible apply setSn); exact (by first | (simp; done) | (intro e; injection e; omega) | (intro e; injection e with e1 e2; omega))))); with_reducible assumption)⟩ | exact ⟨_, by ((repeat (first | with_reducible apply setIs | ((with_reducible apply setIn); exact (by first | (simp; done) | (intro e; injection e; omega) | (intro e; injection e with e1 e2; omega))))); with_reducible assumption)⟩ | exact ⟨_, by ((repeat (first | with_reducible apply setPs | ((with_reducible apply setPn); exact (by first | (simp; done) | (intro e; injection e; omega) | (intro e; injection e with e1 e2; omega))))); with_reducible assumption)⟩) (by first | exact ⟨_, by with_reducible assumption⟩ | exact ⟨_, by ((repeat (first | with_reducible apply setBs | ((with_reducible apply setBn); exact (by first | (simp; done) | (intro e; injection e; omega) | (intro e; injection e with e1 e2; omega))))); with_reducible assumption)⟩ | exact ⟨_, by ((repeat (first | with_reducible apply setSs | ((with_reducible apply setSn); exact (by first | (simp; done) | (intro e; injection e; omega) | (intro e; injection e with e1 e2; omega))))); with_reducible assumption)⟩ | exact ⟨_, by ((repeat (first | with_reducible apply setIs | ((with_reducible apply setIn); exact (by first | (simp; done) | (intro e; injection e; omega) | (intro e; injection e with e1 e2; omega))))); with_reducible assumption)⟩ | exact ⟨_, by ((repeat (first | with_reducible apply setPs | ((with_reducible apply setPn); exact (by first | (simp; done) | (intro e; injection e; omega) | (intro e; injection e with e1 e2; omega))))); with_reducible assumption)⟩) rfl ⟨_, _, _, _, rfl, Zz.cast (by first | ((repeat (first | with_reducible assumption |  with_reducible apply Zz.al | with_reducible apply Zz.dr | with_reducible apply Zz.drN | ((with_reducible apply Zz.set2); (first | (with_reducible assumption) | ((repeat ((with_reducible apply setnA); exact (by first | (simp; done) | (intro e; injection e; omega) | (intro e; injection e with e1 e2; omega)))); (with_reducible assumption))); rfl) | ((with_reducible apply Zz.keep2); (with_reducible assumption)))); done)) (by rfl) (by omega), (by (repeat (first | exact Below.refl _ _ | with_reducible refine blw_alloc ?_ _ | with_reducible refine blw_drewN ?_ _ | with_reducible refine blw_drew ?_ | with_reducible refine blw_set _ ?_ (by first | (dsimp only; omega) | (simp only [World.size_alloc, World.size_setCell, World.size_drew]; omega)) | with_reducible refine blw_trans ?_ (by with_reducible assumption))))⟩
  · have hx0 : 0 ≤ x := by omega
    have HD := Lib.hid (show false = decide (x < 0) by simp; exact hx0)
    go_enter Tryd.func54, Tryd.ntmps54
    go_wp2_with fail
    refine (fromUintI hx0 (by omega)).mono ?_
    rintro e w' ⟨az, lz, cz, rfl, hz, hb⟩
    obtain ⟨_, _, _, _⟩ : w'.cell? ⟨w.heap.size, 0, none⟩ = some (.bool (cellB w' ⟨w.heap.size, 0, none⟩)) ∧ w'.cell? ⟨w.heap.size, 1, none⟩ = some (.slice (cellA w' ⟨w.heap.size, 1, none⟩) (cellL w' ⟨w.heap.size, 1, none⟩) (cellC w' ⟨w.heap.size, 1, none⟩)) ∧ w'.frozen? ⟨w.heap.size, 0, none⟩ = false ∧ w'.frozen? ⟨w.heap.size, 1, none⟩ = false := by (go_split_ands; exact ⟨(by first | with_reducible assumption | ((with_reducible apply hasB); ((repeat (first | (with_reducible assumption) | (with_reducible apply cellDr) | (with_reducible apply cellDrN) | (with_reducible apply setsame) | ((with_reducible apply setnA); exact (by first | (simp; done) | (intro e; injection e; omega) | (intro e; injection e with e1 e2; omega))) | ((with_reducible apply cellKeep); (with_reducible assumption)) | ((show _ = some (.bool false : Value)); go_simp; done) | (with_reducible apply cellAl))); done))), (by first | with_reducible assumption | ((with_reducible apply hasS); ((repeat (first | (with_reducible assumption) | (with_reducible apply cellDr) | (with_reducible apply cellDrN) | (with_reducible apply setsame) | ((with_reducible apply setnA); exact (by first | (simp; done) | (intro e; injection e; omega) | (intro e; injection e with e1 e2; omega))) | ((with_reducible apply cellKeep); (with_reducible assumption)) | ((show _ = some (.slice none 0 0 : Value)); go_simp; done) | (with_reducible apply cellAl))); done))), (by first | with_reducible assumption | ((with_reducible apply Fz.out); (repeat (first | exact Fz.mk' (by with_reducible assumption) (by with_reducible assumption) | (refine Fz.mk' (v := .bool false) ?_ ?_ <;> (go_simp; done)) | (with_reducible apply Fz.dr) | (with_reducible apply Fz.drN) | (with_reducible apply Fz.set) | ((with_reducible apply Fz.keep); (with_reducible assumption)) | (with_reducible apply Fz.al))); done)), (by first | with_reducible assumption | ((with_reducible apply Fz.out); (repeat (first | exact Fz.mk' (by with_reducible assumption) (by with_reducible assumption) | (refine Fz.mk' (v := .slice none 0 0) ?_ ?_ <;> (go_simp; done)) | (with_reducible apply Fz.dr) | (with_reducible apply Fz.drN) | (with_reducible apply Fz.set) | ((with_reducible apply Fz.keep); (with_reducible assumption)) | (with_reducible apply Fz.al))); done))⟩)
    go_wp2
    have HZ : Zz w' false (.slice az lz cz) x 2 := ⟨HD.out, hz⟩
    refine ret_cells2 rfl Tryd.underlying45 rfl (by kernel_rfl) rfl (by first | exact ⟨_, by with_reducible assumption⟩ | exact ⟨_, by ((repeat (first | with_reducible apply setBs | ((with_reducible apply setBn); exact (by first | (simp; done) | (intro e; injection e; omega) | (intro e; injection e with e1 e2; omega))))); with_reducible assumption)⟩ | exact ⟨_, by ((repeat (first | with_reducible apply setSs | ((with_reducible apply setSn); exact (by first | (simp; done) | (intro e; injection e; omega) | (intro e; injection e with e1 e2; omega))))); with_reducible assumption)⟩ | exact ⟨_, by ((repeat (first | with_reducible apply setIs | ((with_reducible apply setIn); exact (by first | (simp; done) | (intro e; injection e; omega) | (intro e; injection e with e1 e2; omega))))); with_reducible assumption)⟩ | exact ⟨_, by ((repeat (first | with_reducible apply setPs | ((with_reducible apply setPn); exact (by first | (simp; done) | (intro e; injection e; omega) | (intro e; injection e with e1 e2; omega))))); with_reducible assumption)⟩) (by first | exact ⟨_, by with_reducible assumption⟩ | exact ⟨_, by ((repeat (first | with_reducible apply setBs | ((with_reducible apply setBn); exact (by first | (simp; done) | (intro e; injection e; omega) | (intro e; injection e with e1 e2; omega))))); with_reducible assumption)⟩ | exact ⟨_, by ((repeat (first | with_reducible apply setSs | ((with_reducible apply setSn); exact (by first | (simp; done) | (intro e; injection e; omega) | (intro e; injection e with e1 e2; omega))))); with_reducible assumption)⟩ | exact ⟨_, by ((repeat (first | with_reducible apply setIs | ((with_reducible apply setIn); exact (by first | (simp; done) | (intro e; injection e; omega) | (intro e; injection e with e1 e2; omega))))); with_reducible assumption)⟩ | exact ⟨_, by ((repeat (first | with_reducible apply setPs | ((with_reducible apply setPn); exact (by first | (simp; done) | (intro e; injection e; omega) | (intro e; injection e with e1 e2; omega))))); with_reducible assumption)⟩) rfl ⟨_, _, _, _, rfl, Zz.cast (by first | ((repeat (first | with_reducible assumption |  with_reducible apply Zz.al | with_reducible apply Zz.dr | with_reducible apply Zz.drN | ((with_reducible apply Zz.set2); (first | (with_reducible assumption) | ((repeat ((with_reducible apply setnA); exact (by first | (simp; done) | (intro e; injection e; omega) | (intro e; injection e with e1 e2; omega)))); (with_reducible assumption))); rfl) | ((with_reducible apply Zz.keep2); (with_reducible assumption)))); done)) (by rfl) (by omega), (by (repeat (first | exact Below.refl _ _ | with_reducible refine blw_alloc ?_ _ | with_reducible refine blw_drewN ?_ _ | with_reducible refine blw_drew ?_ | with_reducible refine blw_set _ ?_ (by first | (dsimp only; omega) | (simp only [World.size_alloc, World.size_setCell, World.size_drew]; omega)) | with_reducible refine blw_trans ?_ (by with_reducible assumption))))⟩

/-- What Int64 returns. -/
def int64V (x : Int) : Value := .tuple #[.int .i64 (if -9223372036854775808 ≤ x ∧ x < 9223372036854775808 then x else 0), .bool (decide (-9223372036854775808 ≤ x ∧ x < 9223372036854775808))]
theorem int64V_in {x : Int} (h : -9223372036854775808 ≤ x ∧ x < 9223372036854775808) : int64V x = .tuple #[.int .i64 x, .bool true] := by
  unfold int64V; rw [if_pos h, decide_eq_true h]
theorem int64V_out {x : Int} (h : ¬ (-9223372036854775808 ≤ x ∧ x < 9223372036854775808)) : int64V x = .tuple #[.int .i64 0, .bool false] := by
  unfold int64V; rw [if_neg h, decide_eq_false h]
end Go.Proofs.YtnkfbkdcplbgoaaDoor
