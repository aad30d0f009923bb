/-
  Texts of this claim, joined: RKnown, Q, NumQ, Nrm.
-/
import Derived.Test.YtfdgglddldlpjaaGreatDoorGO
import Derived.Test.YtfdgglddldlpjaaGreatDoorGL
import Derived.Test.YtfdgglddldlpjaaGreatDoorGF
/- The sanity check of layer 3. printed by a small program (mkrtxt.py). -/
namespace Go.Proofs.YtfdgglddldlpjaaGreatDoor
open Go.RowKit
set_option maxRecDepth 100000
set_option maxHeartbeats 40000000
set_option synthInstance.maxSize 100000
set_option synthInstance.maxHeartbeats 1000000

theorem ratFormatV {w : World} {g1 : Bool} {a1 : Option Addr} {l1 c1 : Nat} {aa1 : Option Addr} {ll1 cc1 : Nat} {x : Rat} {k1 : Nat} {s : ByteArray} [h1 : CW w (.agg #[.bool g1, .slice a1 l1 c1, .slice aa1 ll1 cc1]) x k1] (b : k1 ≤ 700000) (hl : (dl x.num.natAbs).length ≤ 100000000) (hl2 : (dl x.den).length ≤ 100000000) (hs : Hid (fmtQ x = s)) :
    Calls Tryz.prog 73 #[.agg #[.bool g1, .slice a1 l1 c1, .slice aa1 ll1 cc1]] w (fun e w' => e = .returned (.string s) ∧ Below w.heap.size w w') := by
  rw [← hs.out]
  exact ratFormatC b hl hl2
theorem dl_one {n : Nat} (h0 : n ≠ 0) (h : n < 10) : dl n = [n] := by
  rw [dl_pos h0, show n / 10 = 0 by omega, dl_zero, show n % 10 = n by omega]
theorem known03C {w w1 w2 w3 : World} {a0 a1 a2 : Addr} (h0 : Snt w 0 a0 w1) (h1 : Snt w 2 a1 w2) (h2 : Snt w 1 a2 w3) (hne : a1 ≠ a0) :
    Calls Tryz.prog 12 #[] w fun e w' => e = .returned (.bool true) ∧ Below w.heap.size w w' := by
  have i0 := h0.here
  have i1 := h1.here
  have i2 := h2.here
  clear h0 h1 h2
  have n1 : (mkRat 4 6).num = 2 := by decide +kernel
  have n2 : (mkRat 4 6).den = 3 := by decide +kernel
  have HF : Hid (fmtQ (mkRat 4 6) = ⟨#[50, 47, 51]⟩) := by
    show _ = _
    unfold fmtQ
    rw [n1, n2, if_neg (by decide)]
    unfold decI decStr decBytes
    rw [show (2 : Int).natAbs = 2 from rfl, dl_one (by decide) (by decide), dl_one (by decide) (by decide)]; rfl
  have L1 : (dl (mkRat 4 6).num.natAbs).length ≤ 100000000 := by rw [n1, show (2 : Int).natAbs = 2 from rfl, dl_one (by decide) (by decide)]; decide
  have L2 : (dl (mkRat 4 6).den).length ≤ 100000000 := by rw [n2, dl_one (by decide) (by decide)]; decide
  clear n1 n2
  go_enter Tryz.func12, Tryz.ntmps12
  go_wp2_with fail
  with_reducible refine Calls.kRat (rparse_00p ⟨#[52, 47, 54]⟩ (zn := 4) (dn := 6) hne (by decide) (by decide) (by decide +kernel) (by decide +kernel) (by decide)) ?_
  intro W1 _ g a l c aa ll cc _
  go_wp2_with fail
  with_reducible refine Calls.kErr (rparse_00z ⟨#[49, 47, 48]⟩ (zn := 1) (dn := 0) hne (by decide) (by decide) (by decide +kernel) (by decide +kernel) rfl) ?_
  intros
  go_wp2_with (first
    | (go_at_call 73; (with_reducible refine Calls.cE (ratFormatV (by omega) L1 L2 HF) ?_); intros)
    | (go_at_call 35; (with_reducible refine Calls.cS isSameC ?_)))
  go_ret
  exact E.fin rfl
end Go.Proofs.YtfdgglddldlpjaaGreatDoor

/- The reference's rational numbers, and those that are read off the tape. printed by a small program (mkq.py). -/
namespace Go.Proofs.YtfdgglddldlpjaaGreatDoor
open Go.RowKit
set_option maxRecDepth 100000
set_option maxHeartbeats 40000000
set_option synthInstance.maxSize 100000
set_option synthInstance.maxHeartbeats 1000000

theorem cmpN_ne {m n : Nat} (h : m ≠ n) : (cmpN m n == 0) = false ∧ (cmpN m n != 0) = true := by
  have : cmpN m n ≠ 0 := by
    rcases Nat.lt_or_gt_of_ne h with h' | h'
    · rw [cmpN_lt h']; decide
    · rw [cmpN_gt h']; decide
  exact ⟨by simpa using this, by simpa using this⟩
theorem sgn_div {g : Bool} {z : Int} {G : Nat} (hg : g = decide (z < 0)) (h : G ∣ z.natAbs) : sgn g (z.natAbs / G) = z / (G : Int) := by
  subst hg
  obtain ⟨k, hk⟩ := h
  rcases Nat.eq_zero_or_pos G with h0 | h0
  · subst h0; simp [sgn]
  · have hG : (G : Int) ≠ 0 := by omega
    rw [hk, Nat.mul_div_cancel_left _ h0]
    by_cases hz : z < 0
    · rw [show z = (G : Int) * (-(k : Int)) by rw [Int.mul_neg, ← Int.natCast_mul, ← hk]; omega, Int.mul_ediv_cancel_left _ hG]
      have hz' : (G : Int) * (-(k : Int)) < 0 := by rw [Int.mul_neg, ← Int.natCast_mul, ← hk]; omega
      simp only [hz', decide_true, sgn_true]
    · have e : z = (G : Int) * (k : Int) := by rw [← Int.natCast_mul, ← hk]; omega
      have hz' : ¬ (G : Int) * (k : Int) < 0 := by rw [← e]; exact hz
      rw [e, Int.mul_ediv_cancel_left _ hG]
      simp only [hz', decide_false, sgn_false]
theorem numFracC {w : World} {g1 : Bool} {a1 : Option Addr} {l1 c1 : Nat} {a2 : Option Addr} {l2 c2 : Nat} {z : Int} {m k1 k2 : Nat} [h1 : CZ w (.agg #[.bool g1, .slice a1 l1 c1]) z k1] [h2 : CN w (.slice a2 l2 c2) m k2] (b : k1 ≤ 100000 ∧ k2 ≤ 100000) (hm : m ≠ 0) :
    Calls Tryz.prog 75 #[.agg #[.bool g1, .slice a1 l1 c1], .slice a2 l2 c2] w (CQRet w (mkRat z m) (max k1 k2 + 2)) := by
  have hg := Lib.hid (zz_of h1).1
  have i1 : CN w (.slice a1 l1 c1) z.natAbs k1 := ⟨(zz_of h1).2⟩
  have hg0 : Nat.gcd z.natAbs m ≠ 0 := Nat.ne_of_gt (Nat.gcd_pos_of_pos_right _ (Nat.pos_of_ne_zero hm))
  have HQ := Lib.hid (And.intro (mk_num z hm) (mk_den z hm))
  by_cases hG : Nat.gcd z.natAbs m = 1
  · rw [hG] at HQ
    have HN := Lib.hid (show z = (mkRat z m).num by rw [HQ.out.1]; simp)
    rw [Nat.div_one] at HQ
    have e0 : cmpN (Nat.gcd z.natAbs m) 1 = 0 := cmpN_eq hG
    clear hG hm
    by_cases hD : m = 1
    · have HE := Lib.hid (show 0 = (if (mkRat z m).den = 1 then 0 else (mkRat z m).den) by rw [HQ.out.2]; rw [if_pos hD])
      have e2 : cmpN (m) 1 = 0 := cmpN_eq hD
      clear hD
      go_enter Tryz.func75, Tryz.ntmps75
      go_wp2_with (first
          | (go_at_call 146; (with_reducible refine Calls.cN (commonC (by omega)) ?_); intros)
          | (go_at_call 103; (with_reducible refine Calls.cN (oneC) ?_); intros)
          | (go_at_call 147; (with_reducible refine Calls.cE (numCmpC) ?_); intros)
          | (go_at_call 148; (with_reducible refine Calls.cQR (divideC (by omega) (by assumption)) ?_); intros)
          | (go_at_call 80; (with_reducible refine Calls.cSg (makeC) ?_); intros))
      refine ret_bx rfl Tryz.underlying34 rfl (by kernel_rfl) rfl rfl rfl ?_
      exact CQRet.fin (hx := CQ.mk' (k := max k1 k2 + 2) HN.out HE.out (by omega) (by omega)) rfl (by omega)
    · have HE := Lib.hid (show m = (if (mkRat z m).den = 1 then 0 else (mkRat z m).den) by rw [HQ.out.2]; rw [if_neg hD])
      obtain ⟨e2, e3⟩ := cmpN_ne hD
      clear hD
      go_enter Tryz.func75, Tryz.ntmps75
      go_wp2_with (first
          | (go_at_call 146; (with_reducible refine Calls.cN (commonC (by omega)) ?_); intros)
          | (go_at_call 103; (with_reducible refine Calls.cN (oneC) ?_); intros)
          | (go_at_call 147; (with_reducible refine Calls.cE (numCmpC) ?_); intros)
          | (go_at_call 148; (with_reducible refine Calls.cQR (divideC (by omega) (by assumption)) ?_); intros)
          | (go_at_call 80; (with_reducible refine Calls.cSg (makeC) ?_); intros))
      refine ret_bx rfl Tryz.underlying34 rfl (by kernel_rfl) rfl rfl rfl ?_
      exact CQRet.fin (hx := CQ.mk' (k := max k1 k2 + 2) HN.out HE.out (by omega) (by omega)) rfl (by omega)
  · have HN := Lib.hid (show sgn g1 (z.natAbs / Nat.gcd z.natAbs m) = (mkRat z m).num by rw [HQ.out.1]; exact sgn_div hg.out (Nat.gcd_dvd_left _ _))
    obtain ⟨e0, e1⟩ := cmpN_ne hG
    clear hG hm
    by_cases hD : m / Nat.gcd z.natAbs m = 1
    · have HE := Lib.hid (show 0 = (if (mkRat z m).den = 1 then 0 else (mkRat z m).den) by rw [HQ.out.2]; rw [if_pos hD])
      have e2 : cmpN (m / Nat.gcd z.natAbs m) 1 = 0 := cmpN_eq hD
      clear hD
      go_enter Tryz.func75, Tryz.ntmps75
      go_wp2_with (first
          | (go_at_call 146; (with_reducible refine Calls.cN (commonC (by omega)) ?_); intros)
          | (go_at_call 103; (with_reducible refine Calls.cN (oneC) ?_); intros)
          | (go_at_call 147; (with_reducible refine Calls.cE (numCmpC) ?_); intros)
          | (go_at_call 148; (with_reducible refine Calls.cQR (divideC (by omega) (by assumption)) ?_); intros)
          | (go_at_call 80; (with_reducible refine Calls.cSg (makeC) ?_); intros))
      refine ret_bx rfl Tryz.underlying34 rfl (by kernel_rfl) rfl rfl rfl ?_
      exact CQRet.fin (hx := CQ.mk' (k := max k1 k2 + 2) HN.out HE.out (by omega) (by omega)) rfl (by omega)
    · have HE := Lib.hid (show m / Nat.gcd z.natAbs m = (if (mkRat z m).den = 1 then 0 else (mkRat z m).den) by rw [HQ.out.2]; rw [if_neg hD])
      obtain ⟨e2, e3⟩ := cmpN_ne hD
      clear hD
      go_enter Tryz.func75, Tryz.ntmps75
      go_wp2_with (first
          | (go_at_call 146; (with_reducible refine Calls.cN (commonC (by omega)) ?_); intros)
          | (go_at_call 103; (with_reducible refine Calls.cN (oneC) ?_); intros)
          | (go_at_call 147; (with_reducible refine Calls.cE (numCmpC) ?_); intros)
          | (go_at_call 148; (with_reducible refine Calls.cQR (divideC (by omega) (by assumption)) ?_); intros)
          | (go_at_call 80; (with_reducible refine Calls.cSg (makeC) ?_); intros))
      refine ret_bx rfl Tryz.underlying34 rfl (by kernel_rfl) rfl rfl rfl ?_
      exact CQRet.fin (hx := CQ.mk' (k := max k1 k2 + 2) HN.out HE.out (by omega) (by omega)) rfl (by omega)

theorem numDenC {w : World} {g1 : Bool} {a1 aa1 : Option Addr} {l1 c1 ll1 cc1 k1 : Nat} {x : Rat} [h1 : CQ w (.agg #[.bool g1, .slice a1 l1 c1, .slice aa1 ll1 cc1]) x k1] :
    Calls Tryz.prog 82 #[.agg #[.bool g1, .slice a1 l1 c1, .slice aa1 ll1 cc1]] w (CNRet w x.den (k1 + 1)) := by
  have hd := h1.den
  have hl := hd.out.len
  by_cases hx : x.den = 1
  · rw [if_pos hx] at hl
    obtain rfl : ll1 = 0 := hl
    have HE := Lib.hid hx
    clear hd hx
    go_enter Tryz.func82, Tryz.ntmps82
    go_wp2_with (first
    | (go_at_call 103; (with_reducible refine Calls.cN (oneC) ?_); intros))
    go_ret
    exact CNRet.fin HE.out.symm (by omega)
  · rw [if_neg hx] at hl hd
    have hl0 : 0 < ll1 := by rw [hl]; exact nf_len_pos x.den_nz
    clear hl hx
    go_enter Tryz.func82, Tryz.ntmps82
    go_wp2_with (first
    | (go_at_call 103; (with_reducible refine Calls.cN (oneC) ?_); intros))
    go_ret
    exact CNRet.fin rfl (by omega)

theorem numOfC {w : World} {n : Int} (b : -9223372036854775808 ≤ n ∧ n < 9223372036854775808) : Calls Tryz.prog 22 #[.int .i64 n] w (CQRet w (n : Rat) 2) := by
  go_enter Tryz.func22, Tryz.ntmps22
  go_wp2_with (first
    | (go_at_call 86; (with_reducible refine Calls.cZ (numIntC (by omega)) ?_); intros))
  refine ret_bx rfl Tryz.underlying34 rfl (by kernel_rfl) rfl rfl rfl ?_
  exact CQRet.fin rfl (by omega)

theorem numPartC {w : World} {n d : Int} (b : -9223372036854775808 ≤ n ∧ n < 9223372036854775808 ∧ 0 < d ∧ d < 9223372036854775808) : Calls Tryz.prog 222 #[.int .i64 n, .int .i64 d] w (CQRet w (mkRat n d.natAbs) 4) := by
  obtain ⟨b1, b2, b3, b4⟩ := b
  have hd : d.natAbs ≠ 0 := by omega
  go_enter Tryz.func222, Tryz.ntmps222
  go_wp2_with (first
    | (go_at_call 86; (with_reducible refine Calls.cZ (numIntC (by omega)) ?_); intros)
    | (go_at_call 153; (with_reducible refine Calls.cN (wordC (by omega)) ?_); intros)
    | (go_at_call 75; (with_reducible refine Calls.cQ (numFracC (by omega) (by assumption)) ?_); intros))
  refine ret_bx rfl Tryz.underlying34 rfl (by kernel_rfl) rfl rfl rfl ?_
  exact CQRet.fin rfl (by omega)

theorem toQC {w : World} {g1 : Bool} {a1 aa1 : Option Addr} {l1 c1 ll1 cc1 k1 : Nat} {x : Rat} [h1 : CQ w (.agg #[.bool g1, .slice a1 l1 c1, .slice aa1 ll1 cc1]) x k1] (b : k1 ≤ 800000) :
    Calls Tryz.prog 57 #[.agg #[.bool g1, .slice a1 l1 c1, .slice aa1 ll1 cc1]] w (CARet w x (k1 + 1)) := by
  have i1 := h1.num
  go_enter Tryz.func57, Tryz.ntmps57
  go_wp2_with fail
  refine rgn [w.heap.size + 1] [] fun hHeld => ?_
  refine tk 0 hHeld ?_
  refine tk 1 hHeld ?_
  refine tk 3 hHeld ?_
  refine st 2 fun K hK => ?_
  go_simp
  (with_reducible refine Calls.cZ (toIC (by omega)) ?_); intros
  refine hd hK ?_
  clear hHeld hK K
  intro hHeld
  refine st 4 fun K hK => ?_
  go_simp
  (with_reducible refine Calls.cN (numDenC) ?_); intros
  refine hd hK ?_
  clear hHeld hK K
  intro hHeld
  refine st 5 fun K hK => ?_
  go_simp
  (with_reducible refine Calls.cN (refToNC (by omega)) ?_); intros
  refine hd hK ?_
  clear hHeld hK K
  intro hHeld
  refine tk 6 hHeld ?_
  refine st 7 fun K hK => ?_
  go_simp
  refine hd hK ?_
  clear hHeld hK K
  intro hHeld
  refine dn ?_
  clear hHeld
  go_wp2
  refine ret_bx rfl Tryz.underlying27 rfl (by kernel_rfl) rfl rfl rfl ?_
  exact CARet.fin (hx := CA.mk' rfl rfl (by omega) (by omega)) rfl (Nat.le_refl _)

/-- A rational number is read off the tape. -/
def TQRet (w : World) (t : Nat) (k : Nat) (e : Ending) (w' : World) : Prop := ∃ (g : Bool) (a : Option Addr) (l c : Nat) (aa : Option Addr) (ll cc : Nat) (x : Rat), e = .returned (.agg #[.bool g, .slice a l c, .slice aa ll cc]) ∧ CQ w' (.agg #[.bool g, .slice a l c, .slice aa ll cc]) x k ∧ Ct w' t ∧ Gb w w' t
theorem Calls.cTQ {P : Program} {f : FuncId} {args : Array Value} {w : World} {t k : Nat} {K : Ending → World → Prop} [ht : Ct w t] (h : Calls P f args w (TQRet w t k))
    (hK : ∀ w' [Tp1 w w' t] [Ct w' t] (g : Bool) (a : Option Addr) (l c : Nat) (aa : Option Addr) (ll cc : Nat) (x : Rat) [CQ w' (.agg #[.bool g, .slice a l c, .slice aa ll cc]) x k], K (.returned (.agg #[.bool g, .slice a l c, .slice aa ll cc])) w') : Calls P f args w K := by
  refine h.mono ?_
  rintro e w' ⟨g, a, l, c, aa, ll, cc, x, rfl, hx, hc, hb⟩
  exact @hK w' ⟨hb.out, ht.out⟩ hc g a l c aa ll cc x hx
/-- A point is read off the tape. -/
def TPRet (w : World) (t : Nat) (k : Nat) (e : Ending) (w' : World) : Prop := ∃ (g : Bool) (a : Option Addr) (l c : Nat) (aa : Option Addr) (ll cc : Nat) (g2 : Bool) (a2 : Option Addr) (l2 c2 : Nat) (aa2 : Option Addr) (ll2 cc2 : Nat) (x y : Rat), e = .returned (.agg #[.bool g, .slice a l c, .slice aa ll cc, .bool g2, .slice a2 l2 c2, .slice aa2 ll2 cc2]) ∧ CQ w' (.agg #[.bool g, .slice a l c, .slice aa ll cc]) x k ∧ CQ w' (.agg #[.bool g2, .slice a2 l2 c2, .slice aa2 ll2 cc2]) y k ∧ Ct w' t ∧ Gb w w' t
theorem Calls.cTP {P : Program} {f : FuncId} {args : Array Value} {w : World} {t k : Nat} {K : Ending → World → Prop} [ht : Ct w t] (h : Calls P f args w (TPRet w t k))
    (hK : ∀ w' [Tp1 w w' t] [Ct w' t] (g : Bool) (a : Option Addr) (l c : Nat) (aa : Option Addr) (ll cc : Nat) (g2 : Bool) (a2 : Option Addr) (l2 c2 : Nat) (aa2 : Option Addr) (ll2 cc2 : Nat) (x y : Rat) [CQ w' (.agg #[.bool g, .slice a l c, .slice aa ll cc]) x k] [CQ w' (.agg #[.bool g2, .slice a2 l2 c2, .slice aa2 ll2 cc2]) y k], K (.returned (.agg #[.bool g, .slice a l c, .slice aa ll cc, .bool g2, .slice a2 l2 c2, .slice aa2 ll2 cc2])) w') : Calls P f args w K := by
  refine h.mono ?_
  rintro e w' ⟨g, a, l, c, aa, ll, cc, g2, a2, l2, c2, aa2, ll2, cc2, x, y, rfl, hx, hy, hc, hb⟩
  exact @hK w' ⟨hb.out, ht.out⟩ hc g a l c aa ll cc g2 a2 l2 c2 aa2 ll2 cc2 x y hx hy
def NextRet (w : World) (t : Nat) (n : Int) (e : Ending) (w' : World) : Prop := ∃ v : Int, e = .returned (.int .i64 v) ∧ 0 ≤ v ∧ v < n ∧ Ct w' t ∧ Gb w w' t
theorem Calls.cNext {P : Program} {f : FuncId} {args : Array Value} {w : World} {t : Nat} {n : Int} {K : Ending → World → Prop} [ht : Ct w t] (h : Calls P f args w (NextRet w t n))
    (hK : ∀ w' [Tp1 w w' t] [Ct w' t] (v : Int), 0 ≤ v → v < n → K (.returned (.int .i64 v)) w') : Calls P f args w K := by
  refine h.mono ?_
  rintro e w' ⟨v, rfl, h0, h1, hc, hb⟩
  exact @hK w' ⟨hb.out, ht.out⟩ hc v h0 h1
theorem nextC {w : World} {t : Nat} {n : Int} [ht : Ct w t] (b : 0 < n ∧ n ≤ 1000000) : Calls Tryz.prog 43 #[.pointer (some ⟨t, 0, none⟩), .int .i64 n] w (NextRet w t n) := by
  refine (nextW ht.out b.1 b.2).mono ?_
  rintro e w' ⟨v, rfl, h0, h1, hc, hb⟩
  exact ⟨v, rfl, h0, h1, ⟨hc⟩, ⟨hb⟩⟩
theorem Calls.cNew {P : Program} {f : FuncId} {args : Array Value} {w : World} {K : Ending → World → Prop} (h : Calls P f args w (fun e w' => e = .returned (.pointer (some ⟨w.heap.size, 0, none⟩)) ∧ TapeAt w' w.heap.size ∧ Below w.heap.size w w'))
    (hK : ∀ w' [Kp1 w w'] [Ct w' w.heap.size], K (.returned (.pointer (some ⟨w.heap.size, 0, none⟩))) w') : Calls P f args w K := by
  refine h.mono ?_
  rintro e w' ⟨rfl, ht, hb⟩
  exact @hK w' ⟨hb⟩ ⟨ht⟩
theorem tapeQC {w : World} {t : Nat} [ht : Ct w t] : Calls Tryz.prog 163 #[.pointer (some ⟨t, 0, none⟩)] w (TQRet w t 4) := by
  go_enter Tryz.func163, Tryz.ntmps163
  go_wp2_with (first
    | (go_at_call 43; (with_reducible refine Calls.cNext (nextC (by omega)) ?_); intros)
    | (go_at_call 222; (with_reducible refine Calls.cQ (numPartC (by omega)) ?_); intros)
    | (go_at_call 22; (with_reducible refine Calls.cQ (numOfC (by omega)) ?_); intros))
  all_goals
    refine ret_bx rfl Tryz.underlying34 rfl (by kernel_rfl) rfl rfl rfl ?_
    exact ⟨_, _, _, _, _, _, _, _, rfl, CQ.cast inferInstance rfl (by omega), inferInstance, inferInstance⟩
theorem tapePointC {w : World} {t : Nat} [ht : Ct w t] : Calls Tryz.prog 94 #[.pointer (some ⟨t, 0, none⟩)] w (TPRet w t 4) := by
  go_enter Tryz.func94, Tryz.ntmps94
  go_wp2_with (first
    | (go_at_call 163; (with_reducible refine Calls.cTQ (tapeQC) ?_); intros))
  refine ret_bx rfl Tryz.underlying63 rfl (by kernel_rfl) rfl rfl rfl ?_
  exact ⟨_, _, _, _, _, _, _, _, _, _, _, _, _, _, _, _, rfl, inferInstance, inferInstance, inferInstance, inferInstance⟩
end Go.Proofs.YtfdgglddldlpjaaGreatDoor

/- The reference's arithmetic on rational numbers, and its conversions. printed by a small program (mknumq.py). -/
namespace Go.Proofs.YtfdgglddldlpjaaGreatDoor
open Go.RowKit
set_option maxRecDepth 100000
set_option maxHeartbeats 40000000
set_option synthInstance.maxSize 100000
set_option synthInstance.maxHeartbeats 1000000

theorem CQ.len {w : World} {g : Bool} {a aa : Option Addr} {l c ll cc : Nat} {x : Rat} {k : Nat} (h : CQ w (.agg #[.bool g, .slice a l c, .slice aa ll cc]) x k) : (x.den = 1 → ll = 0) ∧ (x.den ≠ 1 → 0 < ll) := by
  have hl := h.den.out.len
  refine ⟨fun e => ?_, fun e => ?_⟩
  · rw [if_pos e] at hl; exact hl
  · rw [if_neg e] at hl; rw [hl]; exact nf_len_pos x.den_nz
theorem add_parts (x y : Rat) : mkRat (x.num * sgn false y.den + y.num * sgn false x.den) (x.den * y.den) = x + y := by rw [rat_add_mk]; rfl
theorem mul_parts (x y : Rat) : mkRat (x.num * y.num) (x.den * y.den) = x * y := (rat_mul_mk x y).symm
theorem numSC {w : World} {g1 : Bool} {a1 aa1 : Option Addr} {l1 c1 ll1 cc1 k1 : Nat} {x : Rat} [h1 : CQ w (.agg #[.bool g1, .slice a1 l1 c1, .slice aa1 ll1 cc1]) x k1] :
    Calls Tryz.prog 24 #[.agg #[.bool g1, .slice a1 l1 c1, .slice aa1 ll1 cc1]] w (fun e w' => e = .returned (.int .i64 (isgn x.num)) ∧ Below w.heap.size w w') := by
  have i1 := h1.num
  go_enter Tryz.func24, Tryz.ntmps24
  go_wp2_with (first
    | (go_at_call 88; (with_reducible refine Calls.cE (numSignC) ?_); intros))
  go_ret
  exact E.fin rfl

theorem numOppC {w : World} {g1 : Bool} {a1 aa1 : Option Addr} {l1 c1 ll1 cc1 k1 : Nat} {x : Rat} [h1 : CQ w (.agg #[.bool g1, .slice a1 l1 c1, .slice aa1 ll1 cc1]) x k1] :
    Calls Tryz.prog 159 #[.agg #[.bool g1, .slice a1 l1 c1, .slice aa1 ll1 cc1]] w (CQRet w (-x) k1) := by
  have i1 := h1.num
  have i2 := h1.den
  go_enter Tryz.func159, Tryz.ntmps159
  go_wp2_with fail
  refine rgn [w.heap.size + 1] [] fun hHeld => ?_
  refine tk 0 hHeld ?_
  refine tk 1 hHeld ?_
  refine tk 3 hHeld ?_
  refine tk 4 hHeld ?_
  refine st 2 fun K hK => ?_
  go_simp
  (with_reducible refine Calls.cZ (numMinusC) ?_); intros
  refine hd hK ?_
  clear hHeld hK K
  intro hHeld
  refine tk 5 hHeld ?_
  refine st 6 fun K hK => ?_
  go_simp
  refine hd hK ?_
  clear hHeld hK K
  intro hHeld
  refine dn ?_
  clear hHeld
  go_wp2
  refine ret_bx rfl Tryz.underlying34 rfl (by kernel_rfl) rfl rfl rfl ?_
  exact CQRet.fin (hx := CQ.mk' (k := k1) (Rat.neg_num x).symm (by rw [Rat.neg_den]) (Nat.le_refl _) (Nat.le_refl _)) rfl (Nat.le_refl _)

theorem numPlusC {w : World} {g1 g2 : Bool} {a1 aa1 a2 aa2 : Option Addr} {l1 c1 ll1 cc1 l2 c2 ll2 cc2 k1 k2 : Nat} {x y : Rat} [h1 : CQ w (.agg #[.bool g1, .slice a1 l1 c1, .slice aa1 ll1 cc1]) x k1] [h2 : CQ w (.agg #[.bool g2, .slice a2 l2 c2, .slice aa2 ll2 cc2]) y k2] (b : k1 ≤ 40000 ∧ k2 ≤ 40000) :
    Calls Tryz.prog 71 #[.agg #[.bool g1, .slice a1 l1 c1, .slice aa1 ll1 cc1], .agg #[.bool g2, .slice a2 l2 c2, .slice aa2 ll2 cc2]] w (CQRet w (x + y) (k1 + k2 + 4)) := by
  have i1 := h1.num
  have i2 := h2.num
  obtain ⟨p1, p2⟩ := h1.len
  obtain ⟨p3, p4⟩ := h2.len
  have hm : x.den * y.den ≠ 0 := Nat.mul_ne_zero x.den_nz y.den_nz
  have HE := Lib.hid (add_parts x y)
  by_cases hx : x.den = 1
  · have l1 := p1 hx
    clear p1 p2
    by_cases hy : y.den = 1
    · have l2 := p3 hy
      clear p3 p4
      have HF := Lib.hid (rat_add1 (x := x) (y := y) hx hy)
      subst l1 l2
      clear hx hy
      go_enter Tryz.func71, Tryz.ntmps71
      go_wp2_with (first
    | (go_at_call 140; (with_reducible refine Calls.cZ (numAddC (by omega)) ?_); intros))
      refine ret_bx rfl Tryz.underlying34 rfl (by kernel_rfl) rfl rfl rfl ?_
      exact CQRet.fin (by exact HF.out.symm) (by omega)
    · have l2 := p4 hy
      clear p3 p4
      subst l1
      clear hx hy
      go_enter Tryz.func71, Tryz.ntmps71
      go_wp2_with fail
      refine rgn [w.heap.size + 1 + 1] [] fun hHeld => ?_
      refine tk 0 hHeld ?_
      refine tk 1 hHeld ?_
      refine tk 2 hHeld ?_
      refine tk 6 hHeld ?_
      refine tk 7 hHeld ?_
      refine tk 8 hHeld ?_
      refine tk 13 hHeld ?_
      refine tk 15 hHeld ?_
      refine st 3 fun K hK => ?_
      go_simp
      (with_reducible refine Calls.cN (numDenC) ?_); intros
      refine hd hK ?_
      clear hHeld hK K
      intro hHeld
      refine st 4 fun K hK => ?_
      go_simp
      (with_reducible refine Calls.cSg (makeC) ?_); intros
      refine hd hK ?_
      clear hHeld hK K
      intro hHeld
      refine st 5 fun K hK => ?_
      go_simp
      (with_reducible refine Calls.cZ (numMulC (by omega)) ?_); intros
      refine hd hK ?_
      clear hHeld hK K
      intro hHeld
      refine st 9 fun K hK => ?_
      go_simp
      (with_reducible refine Calls.cN (numDenC) ?_); intros
      refine hd hK ?_
      clear hHeld hK K
      intro hHeld
      refine st 10 fun K hK => ?_
      go_simp
      (with_reducible refine Calls.cSg (makeC) ?_); intros
      refine hd hK ?_
      clear hHeld hK K
      intro hHeld
      refine st 11 fun K hK => ?_
      go_simp
      (with_reducible refine Calls.cZ (numMulC (by omega)) ?_); intros
      refine hd hK ?_
      clear hHeld hK K
      intro hHeld
      refine st 12 fun K hK => ?_
      go_simp
      (with_reducible refine Calls.cZ (numAddC (by omega)) ?_); intros
      refine hd hK ?_
      clear hHeld hK K
      intro hHeld
      refine st 14 fun K hK => ?_
      go_simp
      (with_reducible refine Calls.cN (numDenC) ?_); intros
      refine hd hK ?_
      clear hHeld hK K
      intro hHeld
      refine st 16 fun K hK => ?_
      go_simp
      (with_reducible refine Calls.cN (numDenC) ?_); intros
      refine hd hK ?_
      clear hHeld hK K
      intro hHeld
      refine st 17 fun K hK => ?_
      go_simp
      (with_reducible refine Calls.cN (numProductC (by omega)) ?_); intros
      refine hd hK ?_
      clear hHeld hK K
      intro hHeld
      refine st 18 fun K hK => ?_
      go_simp
      (with_reducible refine Calls.cQ (numFracC (by omega) hm) ?_); intros
      refine hd hK ?_
      clear hHeld hK K
      intro hHeld
      refine st 19 fun K hK => ?_
      go_simp
      refine hd hK ?_
      clear hHeld hK K
      intro hHeld
      refine dn ?_
      clear hHeld
      go_wp2
      refine ret_bx rfl Tryz.underlying34 rfl (by kernel_rfl) rfl rfl rfl ?_
      exact CQRet.fin HE.out (by omega)
  · have l1 := p2 hx
    clear p1 p2 p3 p4 hx
    go_enter Tryz.func71, Tryz.ntmps71
    go_wp2_with fail
    refine rgn [w.heap.size + 1 + 1] [] fun hHeld => ?_
    refine tk 0 hHeld ?_
    refine tk 1 hHeld ?_
    refine tk 2 hHeld ?_
    refine tk 6 hHeld ?_
    refine tk 7 hHeld ?_
    refine tk 8 hHeld ?_
    refine tk 13 hHeld ?_
    refine tk 15 hHeld ?_
    refine st 3 fun K hK => ?_
    go_simp
    (with_reducible refine Calls.cN (numDenC) ?_); intros
    refine hd hK ?_
    clear hHeld hK K
    intro hHeld
    refine st 4 fun K hK => ?_
    go_simp
    (with_reducible refine Calls.cSg (makeC) ?_); intros
    refine hd hK ?_
    clear hHeld hK K
    intro hHeld
    refine st 5 fun K hK => ?_
    go_simp
    (with_reducible refine Calls.cZ (numMulC (by omega)) ?_); intros
    refine hd hK ?_
    clear hHeld hK K
    intro hHeld
    refine st 9 fun K hK => ?_
    go_simp
    (with_reducible refine Calls.cN (numDenC) ?_); intros
    refine hd hK ?_
    clear hHeld hK K
    intro hHeld
    refine st 10 fun K hK => ?_
    go_simp
    (with_reducible refine Calls.cSg (makeC) ?_); intros
    refine hd hK ?_
    clear hHeld hK K
    intro hHeld
    refine st 11 fun K hK => ?_
    go_simp
    (with_reducible refine Calls.cZ (numMulC (by omega)) ?_); intros
    refine hd hK ?_
    clear hHeld hK K
    intro hHeld
    refine st 12 fun K hK => ?_
    go_simp
    (with_reducible refine Calls.cZ (numAddC (by omega)) ?_); intros
    refine hd hK ?_
    clear hHeld hK K
    intro hHeld
    refine st 14 fun K hK => ?_
    go_simp
    (with_reducible refine Calls.cN (numDenC) ?_); intros
    refine hd hK ?_
    clear hHeld hK K
    intro hHeld
    refine st 16 fun K hK => ?_
    go_simp
    (with_reducible refine Calls.cN (numDenC) ?_); intros
    refine hd hK ?_
    clear hHeld hK K
    intro hHeld
    refine st 17 fun K hK => ?_
    go_simp
    (with_reducible refine Calls.cN (numProductC (by omega)) ?_); intros
    refine hd hK ?_
    clear hHeld hK K
    intro hHeld
    refine st 18 fun K hK => ?_
    go_simp
    (with_reducible refine Calls.cQ (numFracC (by omega) hm) ?_); intros
    refine hd hK ?_
    clear hHeld hK K
    intro hHeld
    refine st 19 fun K hK => ?_
    go_simp
    refine hd hK ?_
    clear hHeld hK K
    intro hHeld
    refine dn ?_
    clear hHeld
    go_wp2
    refine ret_bx rfl Tryz.underlying34 rfl (by kernel_rfl) rfl rfl rfl ?_
    exact CQRet.fin HE.out (by omega)

theorem numTimesC {w : World} {g1 g2 : Bool} {a1 aa1 a2 aa2 : Option Addr} {l1 c1 ll1 cc1 l2 c2 ll2 cc2 k1 k2 : Nat} {x y : Rat} [h1 : CQ w (.agg #[.bool g1, .slice a1 l1 c1, .slice aa1 ll1 cc1]) x k1] [h2 : CQ w (.agg #[.bool g2, .slice a2 l2 c2, .slice aa2 ll2 cc2]) y k2] (b : k1 ≤ 40000 ∧ k2 ≤ 40000) :
    Calls Tryz.prog 173 #[.agg #[.bool g1, .slice a1 l1 c1, .slice aa1 ll1 cc1], .agg #[.bool g2, .slice a2 l2 c2, .slice aa2 ll2 cc2]] w (CQRet w (x * y) (k1 + k2 + 4)) := by
  have i1 := h1.num
  have i2 := h2.num
  obtain ⟨p1, p2⟩ := h1.len
  obtain ⟨p3, p4⟩ := h2.len
  have hm : x.den * y.den ≠ 0 := Nat.mul_ne_zero x.den_nz y.den_nz
  have HE := Lib.hid (mul_parts x y)
  by_cases hx : x.den = 1
  · have l1 := p1 hx
    clear p1 p2
    by_cases hy : y.den = 1
    · have l2 := p3 hy
      clear p3 p4
      have HF := Lib.hid (rat_mul1 (x := x) (y := y) hx hy)
      subst l1 l2
      clear hx hy
      go_enter Tryz.func173, Tryz.ntmps173
      go_wp2_with (first
    | (go_at_call 81; (with_reducible refine Calls.cZ (numMulC (by omega)) ?_); intros))
      refine ret_bx rfl Tryz.underlying34 rfl (by kernel_rfl) rfl rfl rfl ?_
      exact CQRet.fin (by exact HF.out.symm) (by omega)
    · have l2 := p4 hy
      clear p3 p4
      subst l1
      clear hx hy
      go_enter Tryz.func173, Tryz.ntmps173
      go_wp2_with fail
      refine rgn [w.heap.size + 1 + 1] [] fun hHeld => ?_
      refine tk 0 hHeld ?_
      refine tk 1 hHeld ?_
      refine tk 2 hHeld ?_
      refine tk 3 hHeld ?_
      refine tk 5 hHeld ?_
      refine tk 7 hHeld ?_
      refine st 4 fun K hK => ?_
      go_simp
      (with_reducible refine Calls.cZ (numMulC (by omega)) ?_); intros
      refine hd hK ?_
      clear hHeld hK K
      intro hHeld
      refine st 6 fun K hK => ?_
      go_simp
      (with_reducible refine Calls.cN (numDenC) ?_); intros
      refine hd hK ?_
      clear hHeld hK K
      intro hHeld
      refine st 8 fun K hK => ?_
      go_simp
      (with_reducible refine Calls.cN (numDenC) ?_); intros
      refine hd hK ?_
      clear hHeld hK K
      intro hHeld
      refine st 9 fun K hK => ?_
      go_simp
      (with_reducible refine Calls.cN (numProductC (by omega)) ?_); intros
      refine hd hK ?_
      clear hHeld hK K
      intro hHeld
      refine st 10 fun K hK => ?_
      go_simp
      (with_reducible refine Calls.cQ (numFracC (by omega) hm) ?_); intros
      refine hd hK ?_
      clear hHeld hK K
      intro hHeld
      refine st 11 fun K hK => ?_
      go_simp
      refine hd hK ?_
      clear hHeld hK K
      intro hHeld
      refine dn ?_
      clear hHeld
      go_wp2
      refine ret_bx rfl Tryz.underlying34 rfl (by kernel_rfl) rfl rfl rfl ?_
      exact CQRet.fin HE.out (by omega)
  · have l1 := p2 hx
    clear p1 p2 p3 p4 hx
    go_enter Tryz.func173, Tryz.ntmps173
    go_wp2_with fail
    refine rgn [w.heap.size + 1 + 1] [] fun hHeld => ?_
    refine tk 0 hHeld ?_
    refine tk 1 hHeld ?_
    refine tk 2 hHeld ?_
    refine tk 3 hHeld ?_
    refine tk 5 hHeld ?_
    refine tk 7 hHeld ?_
    refine st 4 fun K hK => ?_
    go_simp
    (with_reducible refine Calls.cZ (numMulC (by omega)) ?_); intros
    refine hd hK ?_
    clear hHeld hK K
    intro hHeld
    refine st 6 fun K hK => ?_
    go_simp
    (with_reducible refine Calls.cN (numDenC) ?_); intros
    refine hd hK ?_
    clear hHeld hK K
    intro hHeld
    refine st 8 fun K hK => ?_
    go_simp
    (with_reducible refine Calls.cN (numDenC) ?_); intros
    refine hd hK ?_
    clear hHeld hK K
    intro hHeld
    refine st 9 fun K hK => ?_
    go_simp
    (with_reducible refine Calls.cN (numProductC (by omega)) ?_); intros
    refine hd hK ?_
    clear hHeld hK K
    intro hHeld
    refine st 10 fun K hK => ?_
    go_simp
    (with_reducible refine Calls.cQ (numFracC (by omega) hm) ?_); intros
    refine hd hK ?_
    clear hHeld hK K
    intro hHeld
    refine st 11 fun K hK => ?_
    go_simp
    refine hd hK ?_
    clear hHeld hK K
    intro hHeld
    refine dn ?_
    clear hHeld
    go_wp2
    refine ret_bx rfl Tryz.underlying34 rfl (by kernel_rfl) rfl rfl rfl ?_
    exact CQRet.fin HE.out (by omega)

theorem numSubC {w : World} {g1 g2 : Bool} {a1 aa1 a2 aa2 : Option Addr} {l1 c1 ll1 cc1 l2 c2 ll2 cc2 k1 k2 : Nat} {x y : Rat} [h1 : CQ w (.agg #[.bool g1, .slice a1 l1 c1, .slice aa1 ll1 cc1]) x k1] [h2 : CQ w (.agg #[.bool g2, .slice a2 l2 c2, .slice aa2 ll2 cc2]) y k2] (b : k1 ≤ 40000 ∧ k2 ≤ 40000) :
    Calls Tryz.prog 90 #[.agg #[.bool g1, .slice a1 l1 c1, .slice aa1 ll1 cc1], .agg #[.bool g2, .slice a2 l2 c2, .slice aa2 ll2 cc2]] w (CQRet w (x - y) (k1 + k2 + 4)) := by
  have HE := Lib.hid (Rat.sub_eq_add_neg x y)
  go_enter Tryz.func90, Tryz.ntmps90
  go_wp2_with fail
  refine rgn [w.heap.size + 1 + 1] [] fun hHeld => ?_
  refine tk 0 hHeld ?_
  refine tk 1 hHeld ?_
  refine st 2 fun K hK => ?_
  go_simp
  (with_reducible refine Calls.cQ (numOppC) ?_); intros
  refine hd hK ?_
  clear hHeld hK K
  intro hHeld
  refine st 3 fun K hK => ?_
  go_simp
  (with_reducible refine Calls.cQ (numPlusC (by omega)) ?_); intros
  refine hd hK ?_
  clear hHeld hK K
  intro hHeld
  refine st 4 fun K hK => ?_
  go_simp
  refine hd hK ?_
  clear hHeld hK K
  intro hHeld
  refine dn ?_
  clear hHeld
  go_wp2
  refine ret_bx rfl Tryz.underlying34 rfl (by kernel_rfl) rfl rfl rfl ?_
  exact CQRet.fin HE.out.symm (by omega)

theorem numCC {w : World} {g1 g2 : Bool} {a1 aa1 a2 aa2 : Option Addr} {l1 c1 ll1 cc1 l2 c2 ll2 cc2 k1 k2 : Nat} {x y : Rat} [h1 : CQ w (.agg #[.bool g1, .slice a1 l1 c1, .slice aa1 ll1 cc1]) x k1] [h2 : CQ w (.agg #[.bool g2, .slice a2 l2 c2, .slice aa2 ll2 cc2]) y k2] (b : k1 ≤ 40000 ∧ k2 ≤ 40000) :
    Calls Tryz.prog 26 #[.agg #[.bool g1, .slice a1 l1 c1, .slice aa1 ll1 cc1], .agg #[.bool g2, .slice a2 l2 c2, .slice aa2 ll2 cc2]] w (fun e w' => e = .returned (.int .i64 (isgn (x - y).num)) ∧ Below w.heap.size w w') := by
  go_enter Tryz.func26, Tryz.ntmps26
  go_wp2_with (first
    | (go_at_call 90; (with_reducible refine Calls.cQ (numSubC (by omega)) ?_); intros)
    | (go_at_call 24; (with_reducible refine Calls.cE (numSC) ?_); intros))
  go_ret
  exact E.fin rfl

theorem refQC {w : World} {g1 : Bool} {a1 aa1 : Option Addr} {l1 c1 ll1 cc1 k1 : Nat} {x : Rat} [h1 : CW w (.agg #[.bool g1, .slice a1 l1 c1, .slice aa1 ll1 cc1]) x k1] (b : k1 ≤ 90000) :
    Calls Tryz.prog 13 #[.agg #[.bool g1, .slice a1 l1 c1, .slice aa1 ll1 cc1]] w (CQRet w x (k1 + 2)) := by
  obtain ⟨z, m, rfl, i1, i2⟩ := CW.parts h1
  by_cases hm : m = 0
  · subst hm
    rw [Rat.mkRat_zero]
    go_enter Tryz.func13, Tryz.ntmps13
    go_wp2_with fail
    with_reducible refine Calls.cN (refNC (by omega)) ?_
    intro W1 _ a3 l3 c3 i3
    have hl : l3 = 0 := i3.out.len
    subst hl
    go_wp2
    refine ret_bx rfl Tryz.underlying34 rfl (by kernel_rfl) rfl rfl rfl ?_
    exact CQRet.fin (hx := CQ.mk' (z := 0) (n := 0) (k := k1 + 2) (by simp) (by simp) (by omega) (by omega)) rfl (by omega)
  · go_enter Tryz.func13, Tryz.ntmps13
    go_wp2_with fail
    with_reducible refine Calls.cN (refNC (by omega)) ?_
    intro W1 _ a3 l3 c3 i3
    have hl := i3.out.len
    have hl0 : 0 < l3 := by rw [hl]; exact nf_len_pos hm
    clear hl
    go_wp2_with (first
    | (go_at_call 15; (with_reducible refine Calls.cZ (refIC (by omega)) ?_); intros)
    | (go_at_call 75; (with_reducible refine Calls.cQ (numFracC (by omega) hm) ?_); intros))
    refine ret_bx rfl Tryz.underlying34 rfl (by kernel_rfl) rfl rfl rfl ?_
    exact CQRet.fin rfl (by omega)

theorem sameQC {w : World} {g1 g2 : Bool} {a1 aa1 a2 aa2 : Option Addr} {l1 c1 ll1 cc1 l2 c2 ll2 cc2 k1 k2 : Nat} {x y : Rat} [h1 : CA w (.agg #[.bool g1, .slice a1 l1 c1, .slice aa1 ll1 cc1]) x k1] [h2 : CA w (.agg #[.bool g2, .slice a2 l2 c2, .slice aa2 ll2 cc2]) y k2] (hxy : x = y) :
    Calls Tryz.prog 56 #[.agg #[.bool g1, .slice a1 l1 c1, .slice aa1 ll1 cc1], .agg #[.bool g2, .slice a2 l2 c2, .slice aa2 ll2 cc2]] w (fun e w' => e = .returned (.bool true) ∧ Below w.heap.size w w') := by
  have i1 := h1.num
  have i2 := h1.den
  have i3 := h2.num
  have i4 := h2.den
  subst hxy
  go_enter Tryz.func56, Tryz.ntmps56
  go_wp2_with (first
    | (go_at_call 125; (with_reducible refine Calls.cE (sameIC rfl) ?_); intros)
    | (go_at_call 126; (with_reducible refine Calls.cE (sameNC rfl) ?_); intros))
  go_ret
  exact E.fin rfl

end Go.Proofs.YtfdgglddldlpjaaGreatDoor

/- Normal forms of numbers that came in as arguments: the digits are any digits. Package frac and the reference decide alike. printed by a small program (mknrm.py). -/
namespace Go.Proofs.YtfdgglddldlpjaaGreatDoor
open Go.RowKit
set_option maxRecDepth 100000
set_option maxHeartbeats 40000000
set_option synthInstance.maxSize 100000
set_option synthInstance.maxHeartbeats 1000000

/-- The slice v reads as the digits l. -/
class RL (W : World) (v : Value) (l : outParam (List Nat)) : Prop where out : Rd W v l
instance RL.al {W : World} {v : Value} {l : (List Nat)} {o : Obj} [h : RL W v l] : RL (W.alloc o) v l := ⟨h.out.keep (blw_one _ _)⟩
instance RL.dr {W : World} {v : Value} {l : (List Nat)} [h : RL W v l] : RL W.drew v l := ⟨h.out.keep (blw_drew (Below.refl _ _))⟩
instance RL.drN {W : World} {v : Value} {l : (List Nat)} {j : Nat} [h : RL W v l] : RL (W.drewN j) v l := ⟨h.out.keep (blw_drewN (Below.refl _ _) _)⟩
instance RL.kp {W W2 : World} {v : Value} {l : (List Nat)} [b : Kp1 W W2] [h : RL W v l] : RL W2 v l := ⟨h.out.keep (b.out)⟩
instance RL.tp {W W2 : World} {v : Value} {l : (List Nat)} {g : Nat} [b : Tp1 W W2 g] [h : RL W v l] : RL W2 v l := ⟨h.out.tp b.tp b.gb⟩
instance RL.st {W : World} {v : Value} {l : (List Nat)} {qb ib : Nat} {xv : Value} [b : SoftB W qb] [h : RL W v l] : RL (W.setCell ⟨qb, ib, none⟩ xv) v l := ⟨h.out.soft b⟩
instance (priority := low) CR.ofL {W : World} {v : Value} {l : List Nat} [h : RL W v l] : CR W v (val l) l.length := ⟨.of_rd h.out (Nat.le_refl _)⟩
theorem RL.len {W : World} {a : Option Addr} {n c : Nat} {l : List Nat} (h : RL W (.slice a n c) l) : n = l.length := h.out.len
theorem rl_row {w : World} {a : Option Addr} {len cap : Nat} {zs : List Int} (h : IsRow .u32 w a len cap zs) : ∃ l, l.length = len ∧ RL w (.slice a len cap) l := by
  obtain ⟨l, h1, h2⟩ := rd_of_row h
  exact ⟨l, h1, ⟨h2⟩⟩
theorem normalB_nfx (n : Nat) : normalB (nf n) = true := by
  by_cases h : n = 0
  · subst h; rfl
  · exact normalB_ne (nf_last n h)
theorem normalB_iff {l : List Nat} (hl : Dig l) : normalB l = true ↔ l = nf (val l) := by
  constructor
  · intro h
    refine (nf_of_normal hl ?_).symm
    simp only [normalB, Bool.or_eq_true, decide_eq_true_eq] at h
    rcases h with h | h
    · left; exact List.eq_nil_of_length_eq_zero h
    · right; exact h
  · intro h; rw [h]; exact normalB_nfx _
/-- The integer with sign g and digits l is in normal form. -/
def nrmI (g : Bool) (l : List Nat) : Bool := normalB l && (!g || decide (0 < l.length))
def nrmQ (g : Bool) (l ll : List Nat) : Bool := nrmI g l && normalB ll && decide (0 < ll.length) && decide (Nat.gcd (val l) (val ll) = 1)
def sameP (g : Bool) (l ll : List Nat) (x : Rat) : Bool := (decide (g = decide (x.num < 0)) && sameB l (nf x.num.natAbs)) && sameB ll (nf x.den)
def refB (g : Bool) (l ll : List Nat) (x : Rat) : Bool := sameP g l ll x && decide (0 < ll.length)
theorem nrm_ref {g : Bool} {l ll : List Nat} (hl : Dig l) (hll : Dig ll) : refB g l ll (mkRat (sgn g (val l)) (val ll)) = nrmQ g l ll := by
  rw [Bool.eq_iff_iff]
  simp only [refB, sameP, nrmQ, nrmI, sameB, Bool.and_eq_true, Bool.or_eq_true, decide_eq_true_eq, Bool.not_eq_true', normalB_iff hl, normalB_iff hll]
  generalize hx : mkRat (sgn g (val l)) (val ll) = x
  constructor
  · rintro ⟨⟨⟨h1, h2⟩, h3⟩, h4⟩
    have e2 : val l = x.num.natAbs := by rw [h2, val_nf]
    have e3 : val ll = x.den := by rw [h3, val_nf]
    refine ⟨⟨⟨⟨by rw [e2]; exact h2, ?_⟩, by rw [e3]; exact h3⟩, h4⟩, by rw [e2, e3]; exact x.reduced⟩
    cases g with
    | false => left; rfl
    | true =>
      right
      have hn : x.num < 0 := by simpa using h1.symm
      rw [h2]
      exact nf_len_pos (by omega)
  · rintro ⟨⟨⟨⟨h1, h2⟩, h3⟩, h4⟩, h5⟩
    have hz : val ll ≠ 0 := by
      intro e
      rw [e] at h3
      rw [h3] at h4
      simp [nf_zero] at h4
    by_cases h0 : val l = 0
    · have e1 : l = [] := by rw [h1, h0]; rfl
      have hg : g = false := by
        rcases h2 with h2 | h2
        · exact h2
        · rw [e1] at h2; simp at h2
      have e2 : val ll = 1 := by rw [h0, Nat.gcd_zero_left] at h5; exact h5
      have ex : x = 0 := by rw [← hx, h0, hg, sgn_false]; exact Rat.zero_mkRat _
      rw [ex]
      refine ⟨⟨⟨by rw [hg]; decide +kernel, by rw [e1]; rfl⟩, ?_⟩, h4⟩
      rw [h3, e2]; rfl
    · obtain ⟨q1, q2, _⟩ := sgn_mk (g := g) hz h0
      rw [hx, h5, Nat.div_one] at q1 q2
      refine ⟨⟨⟨?_, by rw [q1, sgn_abs]; exact h1⟩, by rw [q2]; exact h3⟩, h4⟩
      rw [q1]
      cases g with
      | false => simp [sgn]
      | true => simp [sgn]; omega
theorem natNormalLV {w : World} {a1 : Option Addr} {l1 c1 : Nat} {L : List Nat} {v : Bool} [h1 : RL w (.slice a1 l1 c1) L] (hv : Hid (normalB L = v)) :
    Calls Tryz.prog 155 #[.slice a1 l1 c1] w fun e w' => e = .returned (.bool v) ∧ w = w' := by
  rw [← hv.out]
  exact normal_any _ _ _ h1.out
theorem sameNL {w : World} {a1 a2 : Option Addr} {l1 c1 l2 c2 n k2 : Nat} {L : List Nat} [h1 : RL w (.slice a1 l1 c1) L] [h2 : CN w (.slice a2 l2 c2) n k2] :
    Calls Tryz.prog 126 #[.slice a1 l1 c1, .slice a2 l2 c2] w fun e w' => e = .returned (.bool (sameB L (nf n))) ∧ Below w.heap.size w w' := sameN_any _ _ _ _ _ h1.out h2.out.1
theorem natNormalL {w : World} {a1 : Option Addr} {l1 c1 : Nat} {L : List Nat} [h1 : RL w (.slice a1 l1 c1) L] :
    Calls Tryz.prog 155 #[.slice a1 l1 c1] w fun e w' => e = .returned (.bool (normalB L)) ∧ w = w' := normal_any _ _ _ h1.out
theorem sameIL {w : World} {g1 g2 v : Bool} {a1 a2 : Option Addr} {l1 c1 l2 c2 k2 : Nat} {L : List Nat} {x : Int} [h1 : RL w (.slice a1 l1 c1) L] [h2 : CZ w (.agg #[.bool g2, .slice a2 l2 c2]) x k2] (hv : Hid ((decide (g1 = decide (x < 0)) && sameB L (nf x.natAbs)) = v)) :
    Calls Tryz.prog 125 #[.agg #[.bool g1, .slice a1 l1 c1], .agg #[.bool g2, .slice a2 l2 c2]] w fun e w' => e = .returned (.bool v) ∧ Below w.heap.size w w' := by
  have e2 := (zz_of h2).1
  have i2 : CN w (.slice a2 l2 c2) x.natAbs k2 := ⟨(zz_of h2).2⟩
  have HV := Lib.hid hv.out
  clear h2 hv
  rw [← e2] at HV
  clear e2
  cases g1 <;> cases g2
  · go_enter Tryz.func125, Tryz.ntmps125
    go_wp2_with (first
    | (go_at_call 126; (with_reducible refine Calls.cE (sameNL) ?_); intros))
    go_ret
    exact E.fin (by rw [← HV.out]; rfl)
  · go_enter Tryz.func125, Tryz.ntmps125
    go_wp2_with fail
    go_ret
    exact E.fin (by rw [← HV.out]; rfl)
  · go_enter Tryz.func125, Tryz.ntmps125
    go_wp2_with fail
    go_ret
    exact E.fin (by rw [← HV.out]; rfl)
  · go_enter Tryz.func125, Tryz.ntmps125
    go_wp2_with (first
    | (go_at_call 126; (with_reducible refine Calls.cE (sameNL) ?_); intros))
    go_ret
    exact E.fin (by rw [← HV.out]; rfl)
theorem sameQL {w : World} {g1 g2 v : Bool} {a1 a2 aa1 aa2 : Option Addr} {l1 c1 l2 c2 ll1 cc1 ll2 cc2 k2 : Nat} {L LL : List Nat} {x : Rat} [h1 : RL w (.slice a1 l1 c1) L] [h1' : RL w (.slice aa1 ll1 cc1) LL] [h2 : CA w (.agg #[.bool g2, .slice a2 l2 c2, .slice aa2 ll2 cc2]) x k2] (hv : Hid (sameP g1 L LL x = v)) :
    Calls Tryz.prog 56 #[.agg #[.bool g1, .slice a1 l1 c1, .slice aa1 ll1 cc1], .agg #[.bool g2, .slice a2 l2 c2, .slice aa2 ll2 cc2]] w fun e w' => e = .returned (.bool v) ∧ Below w.heap.size w w' := by
  have i1 := h2.num
  have i2 := h2.den
  obtain ⟨b, hb⟩ : ∃ b, (decide (g1 = decide (x.num < 0)) && sameB L (nf x.num.natAbs)) = b := ⟨_, rfl⟩
  have HB := Lib.hid hb
  have HV : Hid ((b && sameB LL (nf x.den)) = v) := by show _ = _; rw [← hb]; exact hv.out
  clear hb hv
  cases b
  all_goals
    go_enter Tryz.func56, Tryz.ntmps56
    go_wp2_with (first
    | (go_at_call 125; (with_reducible refine Calls.cE (sameIL HB) ?_); intros)
    | (go_at_call 126; (with_reducible refine Calls.cE (sameNL) ?_); intros))
    go_ret
    exact E.fin (by rw [← HV.out]; rfl)
theorem intNormalL {w : World} {g1 v : Bool} {a1 : Option Addr} {l1 c1 : Nat} {L : List Nat} [h1 : RL w (.slice a1 l1 c1) L] (hv : Hid (nrmI g1 L = v)) :
    Calls Tryz.prog 154 #[.agg #[.bool g1, .slice a1 l1 c1]] w fun e w' => e = .returned (.bool v) ∧ Below w.heap.size w w' := by
  have hl := h1.len
  have HV : Hid ((normalB L && (!g1 || decide (0 < l1))) = v) := by show _ = _; rw [hl]; exact hv.out
  clear hv hl
  obtain ⟨b, hb⟩ : ∃ b, normalB L = b := ⟨_, rfl⟩
  rw [hb] at HV
  have HB := Lib.hid hb
  clear hb
  by_cases hp : 0 < l1
  · have hp2 : decide (0 < l1) = true := decide_eq_true hp
    rw [hp2] at HV
    cases b <;> cases g1
    all_goals
      go_enter Tryz.func154, Tryz.ntmps154
      go_wp2_with (first
    | (go_at_call 155; (with_reducible refine Calls.cS (natNormalLV HB) ?_); intros))
      go_ret
      exact E.fin (by rw [← HV.out]; rfl)
  · have hp2 : decide (0 < l1) = false := decide_eq_false hp
    obtain rfl : l1 = 0 := by omega
    clear hp
    rw [hp2] at HV
    cases b <;> cases g1
    all_goals
      go_enter Tryz.func154, Tryz.ntmps154
      go_wp2_with (first
    | (go_at_call 155; (with_reducible refine Calls.cS (natNormalLV HB) ?_); intros))
      go_ret
      exact E.fin (by rw [← HV.out]; rfl)
theorem fracNormalL {w : World} {g1 v : Bool} {a1 aa1 : Option Addr} {l1 c1 ll1 cc1 : Nat} {L LL : List Nat} [h1 : RL w (.slice a1 l1 c1) L] [h1' : RL w (.slice aa1 ll1 cc1) LL] (b1 : L.length ≤ 900000 ∧ LL.length ≤ 900000) (hv : Hid (nrmQ g1 L LL = v)) :
    Calls Tryz.prog 84 #[.agg #[.bool g1, .slice a1 l1 c1, .slice aa1 ll1 cc1]] w fun e w' => e = .returned (.bool v) ∧ Below w.heap.size w w' := by
  have hl := h1'.len
  have HV : Hid ((nrmI g1 L && normalB LL && decide (0 < ll1) && decide (Nat.gcd (val L) (val LL) = 1)) = v) := by show _ = _; rw [hl]; exact hv.out
  clear hv
  obtain ⟨b, hb⟩ : ∃ b, nrmI g1 L = b := ⟨_, rfl⟩
  obtain ⟨c, hc⟩ : ∃ c, normalB LL = c := ⟨_, rfl⟩
  rw [hb, hc] at HV
  have HB := Lib.hid hb
  have HC := Lib.hid hc
  have hg0 : val LL ≠ 0 → Nat.gcd (val L) (val LL) ≠ 0 := fun h e => h (Nat.eq_zero_of_gcd_eq_zero_right e)
  have hz : c = true → 0 < ll1 → val LL ≠ 0 := fun h1 h2 e => by
    rw [h1] at hc
    have := (normalB_iff h1'.out.dig).1 hc
    rw [e] at this
    rw [hl, this] at h2
    simp [nf_zero] at h2
  clear hb hc hl
  cases b
  · go_enter Tryz.func84, Tryz.ntmps84
    go_wp2_with (first
    | (go_at_call 154; (with_reducible refine Calls.cE (intNormalL HB) ?_); intros)
    | (go_at_call 155; (with_reducible refine Calls.cS (natNormalLV HC) ?_); intros)
    | (go_at_call 156; (with_reducible refine Calls.cN (gcdC (by omega)) ?_); intros)
    | (go_at_call 143; (with_reducible refine Calls.cS (bitsC (by omega)) ?_); intros))
    go_ret
    exact E.fin (by rw [← HV.out]; rfl)
  cases c
  · go_enter Tryz.func84, Tryz.ntmps84
    go_wp2_with (first
    | (go_at_call 154; (with_reducible refine Calls.cE (intNormalL HB) ?_); intros)
    | (go_at_call 155; (with_reducible refine Calls.cS (natNormalLV HC) ?_); intros)
    | (go_at_call 156; (with_reducible refine Calls.cN (gcdC (by omega)) ?_); intros)
    | (go_at_call 143; (with_reducible refine Calls.cS (bitsC (by omega)) ?_); intros))
    go_ret
    exact E.fin (by rw [← HV.out]; rfl)
  by_cases hp : 0 < ll1
  · have hgz := hg0 (hz rfl hp)
    rw [show decide (0 < ll1) = true from decide_eq_true hp] at HV
    clear hg0 hz
    by_cases hg : Nat.gcd (val L) (val LL) = 1
    · rw [show decide (Nat.gcd (val L) (val LL) = 1) = true from decide_eq_true hg] at HV
      have hn : (((nbits (Nat.gcd (val L) (val LL)) : Nat) : Int) == 1) = true := by rw [hg]; decide +kernel
      clear hg hgz
      go_enter Tryz.func84, Tryz.ntmps84
      go_wp2_with (first
    | (go_at_call 154; (with_reducible refine Calls.cE (intNormalL HB) ?_); intros)
    | (go_at_call 155; (with_reducible refine Calls.cS (natNormalLV HC) ?_); intros)
    | (go_at_call 156; (with_reducible refine Calls.cN (gcdC (by omega)) ?_); intros)
    | (go_at_call 143; (with_reducible refine Calls.cS (bitsC (by omega)) ?_); intros))
      go_ret
      exact E.fin (by rw [← HV.out]; rfl)
    · rw [show decide (Nat.gcd (val L) (val LL) = 1) = false from decide_eq_false hg] at HV
      have hn : (((nbits (Nat.gcd (val L) (val LL)) : Nat) : Int) == 1) = false := by
        rw [beq_eq_false_iff_ne]
        have := @nbits1 (Nat.gcd (val L) (val LL))
        omega
      clear hg hgz
      go_enter Tryz.func84, Tryz.ntmps84
      go_wp2_with (first
    | (go_at_call 154; (with_reducible refine Calls.cE (intNormalL HB) ?_); intros)
    | (go_at_call 155; (with_reducible refine Calls.cS (natNormalLV HC) ?_); intros)
    | (go_at_call 156; (with_reducible refine Calls.cN (gcdC (by omega)) ?_); intros)
    | (go_at_call 143; (with_reducible refine Calls.cS (bitsC (by omega)) ?_); intros))
      go_ret
      exact E.fin (by rw [← HV.out]; rfl)
  · rw [show decide (0 < ll1) = false from decide_eq_false hp] at HV
    obtain rfl : ll1 = 0 := by omega
    clear hp hg0 hz
    go_enter Tryz.func84, Tryz.ntmps84
    go_wp2_with (first
    | (go_at_call 154; (with_reducible refine Calls.cE (intNormalL HB) ?_); intros)
    | (go_at_call 155; (with_reducible refine Calls.cS (natNormalLV HC) ?_); intros)
    | (go_at_call 156; (with_reducible refine Calls.cN (gcdC (by omega)) ?_); intros)
    | (go_at_call 143; (with_reducible refine Calls.cS (bitsC (by omega)) ?_); intros))
    go_ret
    exact E.fin (by rw [← HV.out]; rfl)
theorem normalQL {w : World} {g1 v : Bool} {a1 aa1 : Option Addr} {l1 c1 ll1 cc1 : Nat} {L LL : List Nat} [h1 : RL w (.slice a1 l1 c1) L] [h1' : RL w (.slice aa1 ll1 cc1) LL] (b1 : L.length ≤ 40000 ∧ LL.length ≤ 40000) (hv : Hid (nrmQ g1 L LL = v)) :
    Calls Tryz.prog 20 #[.agg #[.bool g1, .slice a1 l1 c1, .slice aa1 ll1 cc1]] w fun e w' => e = .returned (.bool v) ∧ Below w.heap.size w w' := by
  have HV : Hid ((sameP g1 L LL (mkRat (sgn g1 (val L)) (val LL)) && decide (0 < ll1)) = v) := by
    show _ = _
    rw [← hv.out, ← nrm_ref h1.out.dig h1'.out.dig, h1'.len]
    rfl
  clear hv
  obtain ⟨b, hb⟩ : ∃ b, sameP g1 L LL (mkRat (sgn g1 (val L)) (val LL)) = b := ⟨_, rfl⟩
  rw [hb] at HV
  have HB := Lib.hid hb
  clear hb
  by_cases hp : 0 < ll1
  · rw [show decide (0 < ll1) = true from decide_eq_true hp] at HV
    cases b
    · go_enter Tryz.func20, Tryz.ntmps20
      go_wp2_with fail
      refine rgn [] [] fun hHeld => ?_
      refine tk 0 hHeld ?_
      refine tk 1 hHeld ?_
      refine st 2 fun K hK => ?_
      go_simp
      (with_reducible refine Calls.cQ (refQC (by omega)) ?_); intros
      refine hd hK ?_
      clear hHeld hK K
      intro hHeld
      refine st 3 fun K hK => ?_
      go_simp
      (with_reducible refine Calls.cA (toQC (by omega)) ?_); intros
      refine hd hK ?_
      clear hHeld hK K
      intro hHeld
      refine st 4 fun K hK => ?_
      go_simp
      (with_reducible refine Calls.cE (sameQL HB) ?_); intros
      refine hd hK ?_
      clear hHeld hK K
      intro hHeld
      refine tk 5 hHeld ?_
      refine tkU 6 hHeld ?_
      refine tkU 7 hHeld ?_
      refine tkU 8 hHeld ?_
      refine tkU 9 hHeld ?_
      refine tk 10 hHeld ?_
      refine tk 11 hHeld ?_
      refine dn ?_
      clear hHeld
      go_wp2
      go_ret
      exact E.fin (by rw [← HV.out]; rfl)
    · go_enter Tryz.func20, Tryz.ntmps20
      go_wp2_with fail
      refine rgn [] [] fun hHeld => ?_
      refine tk 0 hHeld ?_
      refine tk 1 hHeld ?_
      refine st 2 fun K hK => ?_
      go_simp
      (with_reducible refine Calls.cQ (refQC (by omega)) ?_); intros
      refine hd hK ?_
      clear hHeld hK K
      intro hHeld
      refine st 3 fun K hK => ?_
      go_simp
      (with_reducible refine Calls.cA (toQC (by omega)) ?_); intros
      refine hd hK ?_
      clear hHeld hK K
      intro hHeld
      refine st 4 fun K hK => ?_
      go_simp
      (with_reducible refine Calls.cE (sameQL HB) ?_); intros
      refine hd hK ?_
      clear hHeld hK K
      intro hHeld
      refine tk 5 hHeld ?_
      refine tk 6 hHeld ?_
      refine tk 7 hHeld ?_
      refine tk 8 hHeld ?_
      refine tk 9 hHeld ?_
      refine tk 10 hHeld ?_
      refine tk 11 hHeld ?_
      refine dn ?_
      clear hHeld
      go_wp2
      go_ret
      exact E.fin (by rw [← HV.out]; rfl)
  · rw [show decide (0 < ll1) = false from decide_eq_false hp] at HV
    obtain rfl : ll1 = 0 := by omega
    clear hp
    cases b
    · go_enter Tryz.func20, Tryz.ntmps20
      go_wp2_with fail
      refine rgn [] [] fun hHeld => ?_
      refine tk 0 hHeld ?_
      refine tk 1 hHeld ?_
      refine st 2 fun K hK => ?_
      go_simp
      (with_reducible refine Calls.cQ (refQC (by omega)) ?_); intros
      refine hd hK ?_
      clear hHeld hK K
      intro hHeld
      refine st 3 fun K hK => ?_
      go_simp
      (with_reducible refine Calls.cA (toQC (by omega)) ?_); intros
      refine hd hK ?_
      clear hHeld hK K
      intro hHeld
      refine st 4 fun K hK => ?_
      go_simp
      (with_reducible refine Calls.cE (sameQL HB) ?_); intros
      refine hd hK ?_
      clear hHeld hK K
      intro hHeld
      refine tk 5 hHeld ?_
      refine tkU 6 hHeld ?_
      refine tkU 7 hHeld ?_
      refine tkU 8 hHeld ?_
      refine tkU 9 hHeld ?_
      refine tk 10 hHeld ?_
      refine tk 11 hHeld ?_
      refine dn ?_
      clear hHeld
      go_wp2
      go_ret
      exact E.fin (by rw [← HV.out]; rfl)
    · go_enter Tryz.func20, Tryz.ntmps20
      go_wp2_with fail
      refine rgn [] [] fun hHeld => ?_
      refine tk 0 hHeld ?_
      refine tk 1 hHeld ?_
      refine st 2 fun K hK => ?_
      go_simp
      (with_reducible refine Calls.cQ (refQC (by omega)) ?_); intros
      refine hd hK ?_
      clear hHeld hK K
      intro hHeld
      refine st 3 fun K hK => ?_
      go_simp
      (with_reducible refine Calls.cA (toQC (by omega)) ?_); intros
      refine hd hK ?_
      clear hHeld hK K
      intro hHeld
      refine st 4 fun K hK => ?_
      go_simp
      (with_reducible refine Calls.cE (sameQL HB) ?_); intros
      refine hd hK ?_
      clear hHeld hK K
      intro hHeld
      refine tk 5 hHeld ?_
      refine tk 6 hHeld ?_
      refine tk 7 hHeld ?_
      refine tk 8 hHeld ?_
      refine tk 9 hHeld ?_
      refine tk 10 hHeld ?_
      refine tk 11 hHeld ?_
      refine dn ?_
      clear hHeld
      go_wp2
      go_ret
      exact E.fin (by rw [← HV.out]; rfl)
end Go.Proofs.YtfdgglddldlpjaaGreatDoor
