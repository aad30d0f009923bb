/-
  The reference's rational numbers, and those that are read off the tape.
  Printed by a small program (mkq.py).
-/
import Derived.Test.YtlameeijogdckaaGreatFrac
namespace Go.Proofs.YtlameeijogdckaaGreat
open Go.RowKit

theorem cmpN_ne {m n : Nat} (h : m ≠ n) : (cmpN m n == 0) = false ∧ (cmpN m n != 0) = true := by
  have : cmpN m n ≠ 0 := by
    rcases Nat.lt_or_gt_of_ne h with h' | h'
    · rw [cmpN_lt h']; decide
    · rw [cmpN_gt h']; decide
  exact ⟨by simpa using this, by simpa using this⟩
theorem sgn_div {g : Bool} {z : Int} {G : Nat} (hg : g = decide (z < 0)) (h : G ∣ z.natAbs) : sgn g (z.natAbs / G) = z / (G : Int) := by
  subst hg
  obtain ⟨k, hk⟩ := h
  rcases Nat.eq_zero_or_pos G with h0 | h0
  · subst h0; simp [sgn]
  · have hG : (G : Int) ≠ 0 := by omega
    rw [hk, Nat.mul_div_cancel_left _ h0]
    by_cases hz : z < 0
    · rw [show z = (G : Int) * (-(k : Int)) by rw [Int.mul_neg, ← Int.natCast_mul, ← hk]; omega, Int.mul_ediv_cancel_left _ hG]
      have hz' : (G : Int) * (-(k : Int)) < 0 := by rw [Int.mul_neg, ← Int.natCast_mul, ← hk]; omega
      simp only [hz', decide_true, sgn_true]
    · have e : z = (G : Int) * (k : Int) := by rw [← Int.natCast_mul, ← hk]; omega
      have hz' : ¬ (G : Int) * (k : Int) < 0 := by rw [← e]; exact hz
      rw [e, Int.mul_ediv_cancel_left _ hG]
      simp only [hz', decide_false, sgn_false]
set_option maxRecDepth 100000 in
set_option maxHeartbeats 4000000 in
set_option synthInstance.maxSize 100000 in
set_option synthInstance.maxHeartbeats 1000000 in
theorem numFracC {w : World} {g1 : Bool} {a1 : Option Addr} {l1 c1 : Nat} {a2 : Option Addr} {l2 c2 : Nat} {z : Int} {m k1 k2 : Nat} [h1 : CZ w (.agg #[.bool g1, .slice a1 l1 c1]) z k1] [h2 : CN w (.slice a2 l2 c2) m k2] (b : k1 ≤ 100000 ∧ k2 ≤ 100000) (hm : m ≠ 0) :
    Calls Tryz.prog 116 #[.agg #[.bool g1, .slice a1 l1 c1], .slice a2 l2 c2] w (CQRet w (mkRat z m) (max k1 k2 + 2)) := by
  have hg := Lib.hid (zz_of h1).1
  have i1 : CN w (.slice a1 l1 c1) z.natAbs k1 := ⟨(zz_of h1).2⟩
  have hg0 : Nat.gcd z.natAbs m ≠ 0 := Nat.ne_of_gt (Nat.gcd_pos_of_pos_right _ (Nat.pos_of_ne_zero hm))
  have HQ := Lib.hid (And.intro (mk_num z hm) (mk_den z hm))
  by_cases hG : Nat.gcd z.natAbs m = 1
  · rw [hG] at HQ
    have HN := Lib.hid (show z = (mkRat z m).num by rw [HQ.out.1]; simp)
    rw [Nat.div_one] at HQ
    have e0 : cmpN (Nat.gcd z.natAbs m) 1 = 0 := cmpN_eq hG
    clear hG hm
    by_cases hD : m = 1
    · have HE := Lib.hid (show 0 = (if (mkRat z m).den = 1 then 0 else (mkRat z m).den) by rw [HQ.out.2]; rw [if_pos hD])
      have e2 : cmpN (m) 1 = 0 := cmpN_eq hD
      clear hD
      go_enter Tryz.func116, Tryz.ntmps116
      go_wp2_with (first
          | (go_at_call 100; (with_reducible refine Calls.cN (commonC (by omega)) ?_); intros)
          | (go_at_call 187; (with_reducible refine Calls.cN (oneC) ?_); intros)
          | (go_at_call 178; (with_reducible refine Calls.cE (numCmpC) ?_); intros)
          | (go_at_call 101; (with_reducible refine Calls.cQR (divideC (by omega) (by assumption)) ?_); intros)
          | (go_at_call 102; (with_reducible refine Calls.cSg (makeC) ?_); intros))
      refine ret_bx rfl Tryz.underlying36 rfl (by kernel_rfl) rfl rfl rfl ?_
      exact CQRet.fin (hx := CQ.mk' (k := max k1 k2 + 2) HN.out HE.out (by omega) (by omega)) rfl (by omega)
    · have HE := Lib.hid (show m = (if (mkRat z m).den = 1 then 0 else (mkRat z m).den) by rw [HQ.out.2]; rw [if_neg hD])
      obtain ⟨e2, e3⟩ := cmpN_ne hD
      clear hD
      go_enter Tryz.func116, Tryz.ntmps116
      go_wp2_with (first
          | (go_at_call 100; (with_reducible refine Calls.cN (commonC (by omega)) ?_); intros)
          | (go_at_call 187; (with_reducible refine Calls.cN (oneC) ?_); intros)
          | (go_at_call 178; (with_reducible refine Calls.cE (numCmpC) ?_); intros)
          | (go_at_call 101; (with_reducible refine Calls.cQR (divideC (by omega) (by assumption)) ?_); intros)
          | (go_at_call 102; (with_reducible refine Calls.cSg (makeC) ?_); intros))
      refine ret_bx rfl Tryz.underlying36 rfl (by kernel_rfl) rfl rfl rfl ?_
      exact CQRet.fin (hx := CQ.mk' (k := max k1 k2 + 2) HN.out HE.out (by omega) (by omega)) rfl (by omega)
  · have HN := Lib.hid (show sgn g1 (z.natAbs / Nat.gcd z.natAbs m) = (mkRat z m).num by rw [HQ.out.1]; exact sgn_div hg.out (Nat.gcd_dvd_left _ _))
    obtain ⟨e0, e1⟩ := cmpN_ne hG
    clear hG hm
    by_cases hD : m / Nat.gcd z.natAbs m = 1
    · have HE := Lib.hid (show 0 = (if (mkRat z m).den = 1 then 0 else (mkRat z m).den) by rw [HQ.out.2]; rw [if_pos hD])
      have e2 : cmpN (m / Nat.gcd z.natAbs m) 1 = 0 := cmpN_eq hD
      clear hD
      go_enter Tryz.func116, Tryz.ntmps116
      go_wp2_with (first
          | (go_at_call 100; (with_reducible refine Calls.cN (commonC (by omega)) ?_); intros)
          | (go_at_call 187; (with_reducible refine Calls.cN (oneC) ?_); intros)
          | (go_at_call 178; (with_reducible refine Calls.cE (numCmpC) ?_); intros)
          | (go_at_call 101; (with_reducible refine Calls.cQR (divideC (by omega) (by assumption)) ?_); intros)
          | (go_at_call 102; (with_reducible refine Calls.cSg (makeC) ?_); intros))
      refine ret_bx rfl Tryz.underlying36 rfl (by kernel_rfl) rfl rfl rfl ?_
      exact CQRet.fin (hx := CQ.mk' (k := max k1 k2 + 2) HN.out HE.out (by omega) (by omega)) rfl (by omega)
    · have HE := Lib.hid (show m / Nat.gcd z.natAbs m = (if (mkRat z m).den = 1 then 0 else (mkRat z m).den) by rw [HQ.out.2]; rw [if_neg hD])
      obtain ⟨e2, e3⟩ := cmpN_ne hD
      clear hD
      go_enter Tryz.func116, Tryz.ntmps116
      go_wp2_with (first
          | (go_at_call 100; (with_reducible refine Calls.cN (commonC (by omega)) ?_); intros)
          | (go_at_call 187; (with_reducible refine Calls.cN (oneC) ?_); intros)
          | (go_at_call 178; (with_reducible refine Calls.cE (numCmpC) ?_); intros)
          | (go_at_call 101; (with_reducible refine Calls.cQR (divideC (by omega) (by assumption)) ?_); intros)
          | (go_at_call 102; (with_reducible refine Calls.cSg (makeC) ?_); intros))
      refine ret_bx rfl Tryz.underlying36 rfl (by kernel_rfl) rfl rfl rfl ?_
      exact CQRet.fin (hx := CQ.mk' (k := max k1 k2 + 2) HN.out HE.out (by omega) (by omega)) rfl (by omega)

set_option maxRecDepth 100000 in
set_option maxHeartbeats 4000000 in
set_option synthInstance.maxSize 100000 in
set_option synthInstance.maxHeartbeats 1000000 in
theorem numDenC {w : World} {g1 : Bool} {a1 : Option Addr} {l1 : Nat} {c1 : Nat} {aa1 : Option Addr} {ll1 : Nat} {cc1 : Nat} {x : Rat} {k1 : Nat} [h1 : CQ w (.agg #[.bool g1, .slice a1 l1 c1, .slice aa1 ll1 cc1]) x k1] :
    Calls Tryz.prog 109 #[.agg #[.bool g1, .slice a1 l1 c1, .slice aa1 ll1 cc1]] w (CNRet w x.den (k1 + 1)) := by
  have hd := h1.den
  have hl := hd.out.len
  by_cases hx : x.den = 1
  · rw [if_pos hx] at hl
    obtain rfl : ll1 = 0 := hl
    have HE := Lib.hid hx
    clear hd hx
    go_enter Tryz.func109, Tryz.ntmps109
    go_wp2_with (first
    | (go_at_call 187; (with_reducible refine Calls.cN (oneC) ?_); intros))
    go_ret
    exact CNRet.fin HE.out.symm (by omega)
  · rw [if_neg hx] at hl hd
    have hl0 : 0 < ll1 := by rw [hl]; exact nf_len_pos x.den_nz
    clear hl hx
    go_enter Tryz.func109, Tryz.ntmps109
    go_wp2_with (first
    | (go_at_call 187; (with_reducible refine Calls.cN (oneC) ?_); intros))
    go_ret
    exact CNRet.fin rfl (by omega)

set_option maxRecDepth 100000 in
set_option maxHeartbeats 4000000 in
set_option synthInstance.maxSize 100000 in
set_option synthInstance.maxHeartbeats 1000000 in
theorem numOfC {w : World} {n : Int} (b : -9223372036854775808 ≤ n ∧ n < 9223372036854775808) : Calls Tryz.prog 95 #[.int .i64 n] w (CQRet w (n : Rat) 2) := by
  go_enter Tryz.func95, Tryz.ntmps95
  go_wp2_with (first
    | (go_at_call 117; (with_reducible refine Calls.cZ (numIntC (by omega)) ?_); intros))
  refine ret_bx rfl Tryz.underlying36 rfl (by kernel_rfl) rfl rfl rfl ?_
  exact CQRet.fin rfl (by omega)

set_option maxRecDepth 100000 in
set_option maxHeartbeats 4000000 in
set_option synthInstance.maxSize 100000 in
set_option synthInstance.maxHeartbeats 1000000 in
theorem numPartC {w : World} {n d : Int} (b : -9223372036854775808 ≤ n ∧ n < 9223372036854775808 ∧ 0 < d ∧ d < 9223372036854775808) : Calls Tryz.prog 39 #[.int .i64 n, .int .i64 d] w (CQRet w (mkRat n d.natAbs) 4) := by
  obtain ⟨b1, b2, b3, b4⟩ := b
  have hd : d.natAbs ≠ 0 := by omega
  go_enter Tryz.func39, Tryz.ntmps39
  go_wp2_with (first
    | (go_at_call 117; (with_reducible refine Calls.cZ (numIntC (by omega)) ?_); intros)
    | (go_at_call 118; (with_reducible refine Calls.cN (wordC (by omega)) ?_); intros)
    | (go_at_call 116; (with_reducible refine Calls.cQ (numFracC (by omega) (by assumption)) ?_); intros))
  refine ret_bx rfl Tryz.underlying36 rfl (by kernel_rfl) rfl rfl rfl ?_
  exact CQRet.fin rfl (by omega)

set_option maxRecDepth 100000 in
set_option maxHeartbeats 4000000 in
set_option synthInstance.maxSize 100000 in
set_option synthInstance.maxHeartbeats 1000000 in
theorem toQC {w : World} {g1 : Bool} {a1 : Option Addr} {l1 : Nat} {c1 : Nat} {aa1 : Option Addr} {ll1 : Nat} {cc1 : Nat} {x : Rat} {k1 : Nat} [h1 : CQ w (.agg #[.bool g1, .slice a1 l1 c1, .slice aa1 ll1 cc1]) x k1] (b : k1 ≤ 800000) :
    Calls Tryz.prog 38 #[.agg #[.bool g1, .slice a1 l1 c1, .slice aa1 ll1 cc1]] w (CARet w x (k1 + 1)) := by
  have i1 := h1.num
  go_enter Tryz.func38, Tryz.ntmps38
  go_wp2_with fail
  refine region_cls (by kernel_rfl) [w.heap.size + 1] (fun hHeld => ?_)
  refine wpAnyH_take (i := 0) (v := ?z1) (by simp; rfl) (by kernel_rfl) (by kernel_rfl) (by kernel_rfl) (by exact fun _ _ _ h => h) (Or.inl ⟨by rfl, ?yz1⟩) hHeld ?_
  case yz1 => (intro wx hSw; have hSx := Ex1.mk hSw; go_simp; (try with_reducible rfl))
  try simp only [Act.put, List.setIfInBounds_toArray, List.set_cons_zero, List.set_cons_succ]
  refine wpAnyH_take (i := 1) (v := ?z2) (by simp; rfl) (by kernel_rfl) (by kernel_rfl) (by kernel_rfl) (by exact fun _ _ _ h => h) (Or.inl ⟨by rfl, ?yz2⟩) hHeld ?_
  case yz2 => (intro wx hSw; have hSx := Ex1.mk hSw; go_simp; (try with_reducible rfl))
  try simp only [Act.put, List.setIfInBounds_toArray, List.set_cons_zero, List.set_cons_succ]
  refine wpAnyH_take (i := 3) (v := ?z3) (by simp; rfl) (by kernel_rfl) (by kernel_rfl) (by kernel_rfl) (by exact fun _ _ _ h => h) (Or.inl ⟨by rfl, ?yz3⟩) hHeld ?_
  case yz3 => (intro wx hSw; have hSx := Ex1.mk hSw; go_simp; (try with_reducible rfl))
  try simp only [Act.put, List.setIfInBounds_toArray, List.set_cons_zero, List.set_cons_succ]
  refine wpAnyH_ready (rs := [2]) (by kernel_rfl) (by simp) ?_
  refine AllReadyH.cons (by simp; rfl) (fun K hK => ?_) AllReadyH.nil
  go_simp
  (go_at_call 114; (with_reducible refine Calls.cZ (toIC (by omega)) ?_); intros)
  refine hK.out _ _ inferInstance ?_
  clear hHeld hK K
  intro hHeld
  try simp only [Act.put, List.setIfInBounds_toArray, List.set_cons_zero, List.set_cons_succ]
  refine wpAnyH_ready (rs := [4]) (by kernel_rfl) (by simp) ?_
  refine AllReadyH.cons (by simp; rfl) (fun K hK => ?_) AllReadyH.nil
  go_simp
  (go_at_call 109; (with_reducible refine Calls.cN (numDenC) ?_); intros)
  refine hK.out _ _ inferInstance ?_
  clear hHeld hK K
  intro hHeld
  try simp only [Act.put, List.setIfInBounds_toArray, List.set_cons_zero, List.set_cons_succ]
  refine wpAnyH_ready (rs := [5]) (by kernel_rfl) (by simp) ?_
  refine AllReadyH.cons (by simp; rfl) (fun K hK => ?_) AllReadyH.nil
  go_simp
  (go_at_call 115; (with_reducible refine Calls.cN (refToNC (by omega)) ?_); intros)
  refine hK.out _ _ inferInstance ?_
  clear hHeld hK K
  intro hHeld
  try simp only [Act.put, List.setIfInBounds_toArray, List.set_cons_zero, List.set_cons_succ]
  refine wpAnyH_take (i := 6) (v := ?z4) (by simp; rfl) (by kernel_rfl) (by kernel_rfl) (by kernel_rfl) (by exact fun _ _ _ h => h) (Or.inl ⟨by rfl, ?yz4⟩) hHeld ?_
  case yz4 => (intro wx hSw; have hSx := Ex1.mk hSw; go_simp; (try with_reducible rfl))
  try simp only [Act.put, List.setIfInBounds_toArray, List.set_cons_zero, List.set_cons_succ]
  refine wpAnyH_ready (rs := [7]) (by kernel_rfl) (by simp) ?_
  refine AllReadyH.cons (by simp; rfl) (fun K hK => ?_) AllReadyH.nil
  go_simp
  refine hK.out _ _ inferInstance ?_
  clear hHeld hK K
  intro hHeld
  try simp only [Act.put, List.setIfInBounds_toArray, List.set_cons_zero, List.set_cons_succ]
  refine wpAnyH_done (by kernel_rfl) ?_ _
  clear hHeld
  go_wp2
  refine ret_bx rfl Tryz.underlying27 rfl (by kernel_rfl) rfl rfl rfl ?_
  exact CARet.fin (hx := CA.mk' rfl rfl (by omega) (by omega)) rfl (Nat.le_refl _)

/-- A rational number is read off the tape. -/
def TQRet (w : World) (t : Nat) (k : Nat) (e : Ending) (w' : World) : Prop := ∃ (g : Bool) (a : Option Addr) (l c : Nat) (aa : Option Addr) (ll cc : Nat) (x : Rat), e = .returned (.agg #[.bool g, .slice a l c, .slice aa ll cc]) ∧ CQ w' (.agg #[.bool g, .slice a l c, .slice aa ll cc]) x k ∧ Ct w' t ∧ Gb w w' t
theorem Calls.cTQ {P : Program} {f : FuncId} {args : Array Value} {w : World} {t k : Nat} {K : Ending → World → Prop} [ht : Ct w t] (h : Calls P f args w (TQRet w t k))
    (hK : ∀ w' [Tp1 w w' t] [Ct w' t] (g : Bool) (a : Option Addr) (l c : Nat) (aa : Option Addr) (ll cc : Nat) (x : Rat) [CQ w' (.agg #[.bool g, .slice a l c, .slice aa ll cc]) x k], K (.returned (.agg #[.bool g, .slice a l c, .slice aa ll cc])) w') : Calls P f args w K := by
  refine h.mono ?_
  rintro e w' ⟨g, a, l, c, aa, ll, cc, x, rfl, hx, hc, hb⟩
  exact @hK w' ⟨hb.out, ht.out⟩ hc g a l c aa ll cc x hx
/-- A point is read off the tape. -/
def TPRet (w : World) (t : Nat) (k : Nat) (e : Ending) (w' : World) : Prop := ∃ (g : Bool) (a : Option Addr) (l c : Nat) (aa : Option Addr) (ll cc : Nat) (g2 : Bool) (a2 : Option Addr) (l2 c2 : Nat) (aa2 : Option Addr) (ll2 cc2 : Nat) (x y : Rat), e = .returned (.agg #[.bool g, .slice a l c, .slice aa ll cc, .bool g2, .slice a2 l2 c2, .slice aa2 ll2 cc2]) ∧ CQ w' (.agg #[.bool g, .slice a l c, .slice aa ll cc]) x k ∧ CQ w' (.agg #[.bool g2, .slice a2 l2 c2, .slice aa2 ll2 cc2]) y k ∧ Ct w' t ∧ Gb w w' t
theorem Calls.cTP {P : Program} {f : FuncId} {args : Array Value} {w : World} {t k : Nat} {K : Ending → World → Prop} [ht : Ct w t] (h : Calls P f args w (TPRet w t k))
    (hK : ∀ w' [Tp1 w w' t] [Ct w' t] (g : Bool) (a : Option Addr) (l c : Nat) (aa : Option Addr) (ll cc : Nat) (g2 : Bool) (a2 : Option Addr) (l2 c2 : Nat) (aa2 : Option Addr) (ll2 cc2 : Nat) (x y : Rat) [CQ w' (.agg #[.bool g, .slice a l c, .slice aa ll cc]) x k] [CQ w' (.agg #[.bool g2, .slice a2 l2 c2, .slice aa2 ll2 cc2]) y k], K (.returned (.agg #[.bool g, .slice a l c, .slice aa ll cc, .bool g2, .slice a2 l2 c2, .slice aa2 ll2 cc2])) w') : Calls P f args w K := by
  refine h.mono ?_
  rintro e w' ⟨g, a, l, c, aa, ll, cc, g2, a2, l2, c2, aa2, ll2, cc2, x, y, rfl, hx, hy, hc, hb⟩
  exact @hK w' ⟨hb.out, ht.out⟩ hc g a l c aa ll cc g2 a2 l2 c2 aa2 ll2 cc2 x y hx hy
def NextRet (w : World) (t : Nat) (n : Int) (e : Ending) (w' : World) : Prop := ∃ v : Int, e = .returned (.int .i64 v) ∧ 0 ≤ v ∧ v < n ∧ Ct w' t ∧ Gb w w' t
theorem Calls.cNext {P : Program} {f : FuncId} {args : Array Value} {w : World} {t : Nat} {n : Int} {K : Ending → World → Prop} [ht : Ct w t] (h : Calls P f args w (NextRet w t n))
    (hK : ∀ w' [Tp1 w w' t] [Ct w' t] (v : Int), 0 ≤ v → v < n → K (.returned (.int .i64 v)) w') : Calls P f args w K := by
  refine h.mono ?_
  rintro e w' ⟨v, rfl, h0, h1, hc, hb⟩
  exact @hK w' ⟨hb.out, ht.out⟩ hc v h0 h1
theorem nextC {w : World} {t : Nat} {n : Int} [ht : Ct w t] (b : 0 < n ∧ n ≤ 1000000) : Calls Tryz.prog 40 #[.pointer (some ⟨t, 0, none⟩), .int .i64 n] w (NextRet w t n) := by
  refine (nextW ht.out b.1 b.2).mono ?_
  rintro e w' ⟨v, rfl, h0, h1, hc, hb⟩
  exact ⟨v, rfl, h0, h1, ⟨hc⟩, ⟨hb⟩⟩
theorem Calls.cNew {P : Program} {f : FuncId} {args : Array Value} {w : World} {K : Ending → World → Prop} (h : Calls P f args w (fun e w' => e = .returned (.pointer (some ⟨w.heap.size, 0, none⟩)) ∧ TapeAt w' w.heap.size ∧ Below w.heap.size w w'))
    (hK : ∀ w' [Kp1 w w'] [Ct w' w.heap.size], K (.returned (.pointer (some ⟨w.heap.size, 0, none⟩))) w') : Calls P f args w K := by
  refine h.mono ?_
  rintro e w' ⟨rfl, ht, hb⟩
  exact @hK w' ⟨hb⟩ ⟨ht⟩
set_option maxRecDepth 100000 in
set_option maxHeartbeats 4000000 in
set_option synthInstance.maxSize 100000 in
set_option synthInstance.maxHeartbeats 1000000 in
theorem tapeQC {w : World} {t : Nat} [ht : Ct w t] : Calls Tryz.prog 47 #[.pointer (some ⟨t, 0, none⟩)] w (TQRet w t 4) := by
  go_enter Tryz.func47, Tryz.ntmps47
  go_wp2_with (first
    | (go_at_call 40; (with_reducible refine Calls.cNext (nextC (by omega)) ?_); intros)
    | (go_at_call 39; (with_reducible refine Calls.cQ (numPartC (by omega)) ?_); intros)
    | (go_at_call 95; (with_reducible refine Calls.cQ (numOfC (by omega)) ?_); intros))
  all_goals
    refine ret_bx rfl Tryz.underlying36 rfl (by kernel_rfl) rfl rfl rfl ?_
    exact ⟨_, _, _, _, _, _, _, _, rfl, CQ.cast inferInstance rfl (by omega), inferInstance, inferInstance⟩
set_option maxRecDepth 100000 in
set_option maxHeartbeats 4000000 in
set_option synthInstance.maxSize 100000 in
set_option synthInstance.maxHeartbeats 1000000 in
theorem tapePointC {w : World} {t : Nat} [ht : Ct w t] : Calls Tryz.prog 31 #[.pointer (some ⟨t, 0, none⟩)] w (TPRet w t 4) := by
  go_enter Tryz.func31, Tryz.ntmps31
  go_wp2_with (first
    | (go_at_call 47; (with_reducible refine Calls.cTQ (tapeQC) ?_); intros))
  refine ret_bx rfl Tryz.underlying38 rfl (by kernel_rfl) rfl rfl rfl ?_
  exact ⟨_, _, _, _, _, _, _, _, _, _, _, _, _, _, _, _, rfl, inferInstance, inferInstance, inferInstance, inferInstance⟩
end Go.Proofs.YtlameeijogdckaaGreat
