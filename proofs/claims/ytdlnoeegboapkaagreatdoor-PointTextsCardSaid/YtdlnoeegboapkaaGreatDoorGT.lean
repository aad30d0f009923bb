/-
  Texts of this claim, joined: Pt3, Pt4, Pt5.
-/
import Derived.Test.YtdlnoeegboapkaaGreatDoorGS
/- point.Parse. printed by a small program (mkpt2.py). -/
namespace Go.Proofs.YtdlnoeegboapkaaGreatDoor
open Go.RowKit
set_option maxRecDepth 100000
set_option maxHeartbeats 40000000
set_option synthInstance.maxSize 100000
set_option synthInstance.maxHeartbeats 1000000
set_option linter.unusedVariables false
set_option linter.unusedSimpArgs false

/-- The text inside the brackets. -/
def inT (l : List UInt8) : List UInt8 := sufT 41 (preT 40 l)
theorem preT_len (c : UInt8) (l : List UInt8) : (preT c l).length ≤ l.length := by unfold preT; split <;> simp
theorem sufT_len (c : UInt8) (l : List UInt8) : (sufT c l).length ≤ l.length := by unfold sufT; split <;> simp
theorem lit40 : Hid ((⟨#[40]⟩ : ByteArray).data.toList = [40]) := rfl
theorem lit41 : Hid ((⟨#[41]⟩ : ByteArray).data.toList = [41]) := rfl
theorem suf_hid {x : ByteArray} {p : List UInt8} {b : Bool} (h : Hid (x.data.toList = p)) (e : sufB 41 p = b) : Hid (sufB 41 x.data.toList = b) := by show _ = _; rw [h.out]; exact e
theorem sufT_eq {x : ByteArray} {p q : List UInt8} (h : Hid (x.data.toList = p)) (e : sufT 41 p = q) : sufT 41 x.data.toList = q := by rw [h.out]; exact e
theorem com_eq {x : ByteArray} {p q r : List UInt8} {b : Bool} (h : Hid (x.data.toList = p)) (e : hasCom p = b ∧ comL p = q ∧ comR p = r) : hasCom x.data.toList = b ∧ comL x.data.toList = q ∧ comR x.data.toList = r := by rw [h.out]; exact e
theorem size_le {x : ByteArray} {l : List UInt8} (h : Hid (x.data.toList = l)) {n : Nat} (hn : l.length ≤ n) : x.size ≤ n := by rw [str_len, h.out]; exact hn
def PtRet (w : World) (x y : Rat) (k : Nat) (e : Ending) (w' : World) : Prop :=
  ∃ g a l c aa ll cc g2 a2 l2 c2 aa2 ll2 cc2, e = .returned (.tuple #[.agg #[.bool g, .slice a l c, .slice aa ll cc, .bool g2, .slice a2 l2 c2, .slice aa2 ll2 cc2], .nilIface]) ∧ CA w' (.agg #[.bool g, .slice a l c, .slice aa ll cc]) x k ∧ CA w' (.agg #[.bool g2, .slice a2 l2 c2, .slice aa2 ll2 cc2]) y k ∧ Below w.heap.size w w'
theorem Calls.kPt {P : Program} {f : FuncId} {args : Array Value} {w : World} {x y : Rat} {k : Nat} {K : Ending → World → Prop} (h : Calls P f args w (PtRet w x y k))
    (hK : ∀ w' [Kp1 w w'] g a l c aa ll cc g2 a2 l2 c2 aa2 ll2 cc2 [CA w' (.agg #[.bool g, .slice a l c, .slice aa ll cc]) x k] [CA w' (.agg #[.bool g2, .slice a2 l2 c2, .slice aa2 ll2 cc2]) y k], K (.returned (.tuple #[.agg #[.bool g, .slice a l c, .slice aa ll cc, .bool g2, .slice a2 l2 c2, .slice aa2 ll2 cc2], .nilIface])) w') : Calls P f args w K := by
  refine h.mono ?_
  rintro e w' ⟨g, a, l, c, aa, ll, cc, g2, a2, l2, c2, aa2, ll2, cc2, rfl, hx, hy, hb⟩
  exact @hK w' ⟨hb⟩ g a l c aa ll cc g2 a2 l2 c2 aa2 ll2 cc2 hx hy
theorem pp_f {w w1 w2 w3 : World} {s : ByteArray} {B2 B3 : Bool} {a0 a1 a2 : Addr} [h0 : Snt w 0 a0 w1] [h1 : Snt w 2 a1 w2] [h2 : Snt w 1 a2 w3] (hne : a1 ≠ a0) (hne2 : a2 ≠ a0) (hsz : s.size ≤ 1000000) (hb1 : preB 40 s.data.toList = false) (hb2 : sufB 41 (preT 40 s.data.toList) = B2) (hb3 : hasCom (inT s.data.toList) = B3) :
    Calls Tryz.prog 13 #[.string s] w (ErrRet w (.agg #[.bool false, .slice none 0 0, .slice none 0 0, .bool false, .slice none 0 0, .slice none 0 0]) a0) := by
  have i0 := h0.here
  have i1 := h1.here
  have i2 := h2.here
  clear h0 h1 h2
  have hlen := str_len s
  have hl0 := preT_len 40 s.data.toList
  have hl1 : (inT s.data.toList).length ≤ (preT 40 s.data.toList).length := sufT_len 41 (preT 40 s.data.toList)
  have hl2 := comL_len (inT s.data.toList)
  have hl3 := comR_len (inT s.data.toList)
  rw [← hlen] at hl0
  have n0 : (preT 40 s.data.toList).length ≤ 1000000 := by omega
  have n1 : (inT s.data.toList).length ≤ 1000000 := by omega
  have n2 : (comL (inT s.data.toList)).length ≤ 1000000 := by omega
  have n3 : (comR (inT s.data.toList)).length ≤ 1000000 := by omega
  obtain ⟨p0, hp0⟩ : ∃ p, preT 40 s.data.toList = p := ⟨_, rfl⟩
  obtain ⟨p1, hp1⟩ : ∃ p, inT s.data.toList = p := ⟨_, rfl⟩
  have hp1' : sufT 41 p0 = p1 := by rw [← hp0]; exact hp1
  have HB1 : Hid (preB 40 s.data.toList = false ∧ preT 40 s.data.toList = p0) := ⟨hb1, hp0⟩
  rw [hp0] at hb2 n0
  rw [hp1] at hb3 n1 n2 n3
  have HB2 : Hid (sufB 41 p0 = B2 ∧ sufT 41 p0 = p1) := ⟨hb2, hp1'⟩
  obtain ⟨q1, hq1⟩ : ∃ p, comL p1 = p := ⟨_, rfl⟩
  obtain ⟨q2, hq2⟩ : ∃ p, comR p1 = p := ⟨_, rfl⟩
  have HB3 : Hid (hasCom p1 = B3 ∧ comL p1 = q1 ∧ comR p1 = q2) := ⟨hb3, hq1, hq2⟩
  rw [hq1] at n2
  rw [hq2] at n3
  clear hb1 hb2 hb3 hp0 hp1 hp1' hq1 hq2 hl0 hl1 hl2 hl3 hlen
  go_enter Tryz.func13, Tryz.ntmps13
  go_wp2_with fail
  with_reducible refine Calls.kStr (cpC lit40 (Lib.hid HB1.out.1)) (l' := p0) ⟨rfl, HB1.out.2⟩ ?_
  intro s1 hs1
  go_wp2_with fail
  with_reducible refine Calls.kStr (csC (size_le hs1 (n := 1000000000) (by omega)) lit41 (suf_hid hs1 HB2.out.1)) (l' := p1) ⟨rfl, sufT_eq hs1 HB2.out.2⟩ ?_
  intro s2 hs2
  go_wp2_with fail
  with_reducible refine Calls.kCom (comC s2 _ (size_le hs2 (n := 1000000000) (by omega))) (p := q1) (q := q2) (com_eq hs2 HB3.out) ?_
  intro W0 _ x y hx hy
  have hxs : x.size ≤ 1000000 := size_le hx n2
  have hys : y.size ≤ 1000000 := size_le hy n3
  go_wp2_with fail
  with_reducible refine Calls.kAny (rpAny hne hxs) ?_
  intro W1 _ g1 a1 l1 c1 aa1 ll1 cc1 er1
  go_wp2_with fail
  with_reducible refine Calls.kAny (rpAny hne hys) ?_
  intro W2 _ g2 a2 l2 c2 aa2 ll2 cc2 er2
  go_wp2_with (first
    | (go_at_call 18; (with_reducible refine Calls.cS (isNilC _) ?_))
    | (go_at_call 18; (with_reducible refine Calls.cS isSameC ?_))
    | (go_at_call 18; (with_reducible refine Calls.cS (isOtherC (g1 := 1) (g2 := 0) inferInstance inferInstance hne2) ?_)))
  refine rgn [w.heap.size] [] fun hHeld => ?_
  refine tk 0 hHeld ?_
  refine tk 1 hHeld ?_
  refine tk 2 hHeld ?_
  refine wpAnyT_ready (rs := [3, 5]) (by kernel_rfl) (by simp) ?_
  refine AllT.cons (by simp; rfl) (fun K hK => ?_) (AllT.cons (by simp; rfl) (fun K hK => ?_) AllT.nil)
  go_simp
  refine hd hK ?_
  clear hHeld hK K
  intro hHeld
  refine tk 4 hHeld ?_
  refine st 5 fun K hK => ?_
  go_simp
  refine hd hK ?_
  clear hHeld hK K
  intro hHeld
  refine tk 6 hHeld ?_
  refine dn ?_
  clear hHeld
  go_wp2
  refine ret_bt rfl Tryz.underlying31 rfl (by kernel_rfl) rfl rfl rfl ?_
  exact ⟨_, _, rfl, inferInstance, inferInstance, (inferInstance : Kp w _).out⟩
  go_simp
  refine hd hK ?_
  clear hHeld hK K
  intro hHeld
  refine st 3 fun K hK => ?_
  go_simp
  refine hd hK ?_
  clear hHeld hK K
  intro hHeld
  refine tk 4 hHeld ?_
  refine tk 6 hHeld ?_
  refine dn ?_
  clear hHeld
  go_wp2
  refine ret_bt rfl Tryz.underlying31 rfl (by kernel_rfl) rfl rfl rfl ?_
  exact ⟨_, _, rfl, inferInstance, inferInstance, (inferInstance : Kp w _).out⟩
theorem pp_tf {w w1 w2 w3 : World} {s : ByteArray} {B3 : Bool} {a0 a1 a2 : Addr} [h0 : Snt w 0 a0 w1] [h1 : Snt w 2 a1 w2] [h2 : Snt w 1 a2 w3] (hne : a1 ≠ a0) (hne2 : a2 ≠ a0) (hsz : s.size ≤ 1000000) (hb1 : preB 40 s.data.toList = true) (hb2 : sufB 41 (preT 40 s.data.toList) = false) (hb3 : hasCom (inT s.data.toList) = B3) :
    Calls Tryz.prog 13 #[.string s] w (ErrRet w (.agg #[.bool false, .slice none 0 0, .slice none 0 0, .bool false, .slice none 0 0, .slice none 0 0]) a0) := by
  have i0 := h0.here
  have i1 := h1.here
  have i2 := h2.here
  clear h0 h1 h2
  have hlen := str_len s
  have hl0 := preT_len 40 s.data.toList
  have hl1 : (inT s.data.toList).length ≤ (preT 40 s.data.toList).length := sufT_len 41 (preT 40 s.data.toList)
  have hl2 := comL_len (inT s.data.toList)
  have hl3 := comR_len (inT s.data.toList)
  rw [← hlen] at hl0
  have n0 : (preT 40 s.data.toList).length ≤ 1000000 := by omega
  have n1 : (inT s.data.toList).length ≤ 1000000 := by omega
  have n2 : (comL (inT s.data.toList)).length ≤ 1000000 := by omega
  have n3 : (comR (inT s.data.toList)).length ≤ 1000000 := by omega
  obtain ⟨p0, hp0⟩ : ∃ p, preT 40 s.data.toList = p := ⟨_, rfl⟩
  obtain ⟨p1, hp1⟩ : ∃ p, inT s.data.toList = p := ⟨_, rfl⟩
  have hp1' : sufT 41 p0 = p1 := by rw [← hp0]; exact hp1
  have HB1 : Hid (preB 40 s.data.toList = true ∧ preT 40 s.data.toList = p0) := ⟨hb1, hp0⟩
  rw [hp0] at hb2 n0
  rw [hp1] at hb3 n1 n2 n3
  have HB2 : Hid (sufB 41 p0 = false ∧ sufT 41 p0 = p1) := ⟨hb2, hp1'⟩
  obtain ⟨q1, hq1⟩ : ∃ p, comL p1 = p := ⟨_, rfl⟩
  obtain ⟨q2, hq2⟩ : ∃ p, comR p1 = p := ⟨_, rfl⟩
  have HB3 : Hid (hasCom p1 = B3 ∧ comL p1 = q1 ∧ comR p1 = q2) := ⟨hb3, hq1, hq2⟩
  rw [hq1] at n2
  rw [hq2] at n3
  clear hb1 hb2 hb3 hp0 hp1 hp1' hq1 hq2 hl0 hl1 hl2 hl3 hlen
  go_enter Tryz.func13, Tryz.ntmps13
  go_wp2_with fail
  with_reducible refine Calls.kStr (cpC lit40 (Lib.hid HB1.out.1)) (l' := p0) ⟨rfl, HB1.out.2⟩ ?_
  intro s1 hs1
  go_wp2_with fail
  with_reducible refine Calls.kStr (csC (size_le hs1 (n := 1000000000) (by omega)) lit41 (suf_hid hs1 HB2.out.1)) (l' := p1) ⟨rfl, sufT_eq hs1 HB2.out.2⟩ ?_
  intro s2 hs2
  go_wp2_with fail
  with_reducible refine Calls.kCom (comC s2 _ (size_le hs2 (n := 1000000000) (by omega))) (p := q1) (q := q2) (com_eq hs2 HB3.out) ?_
  intro W0 _ x y hx hy
  have hxs : x.size ≤ 1000000 := size_le hx n2
  have hys : y.size ≤ 1000000 := size_le hy n3
  go_wp2_with fail
  with_reducible refine Calls.kAny (rpAny hne hxs) ?_
  intro W1 _ g1 a1 l1 c1 aa1 ll1 cc1 er1
  go_wp2_with fail
  with_reducible refine Calls.kAny (rpAny hne hys) ?_
  intro W2 _ g2 a2 l2 c2 aa2 ll2 cc2 er2
  go_wp2_with (first
    | (go_at_call 18; (with_reducible refine Calls.cS (isNilC _) ?_))
    | (go_at_call 18; (with_reducible refine Calls.cS isSameC ?_))
    | (go_at_call 18; (with_reducible refine Calls.cS (isOtherC (g1 := 1) (g2 := 0) inferInstance inferInstance hne2) ?_)))
  refine rgn [w.heap.size] [] fun hHeld => ?_
  refine tk 0 hHeld ?_
  refine tk 1 hHeld ?_
  refine tk 2 hHeld ?_
  refine wpAnyT_ready (rs := [3, 5]) (by kernel_rfl) (by simp) ?_
  refine AllT.cons (by simp; rfl) (fun K hK => ?_) (AllT.cons (by simp; rfl) (fun K hK => ?_) AllT.nil)
  go_simp
  refine hd hK ?_
  clear hHeld hK K
  intro hHeld
  refine tk 4 hHeld ?_
  refine st 5 fun K hK => ?_
  go_simp
  refine hd hK ?_
  clear hHeld hK K
  intro hHeld
  refine tk 6 hHeld ?_
  refine dn ?_
  clear hHeld
  go_wp2
  refine ret_bt rfl Tryz.underlying31 rfl (by kernel_rfl) rfl rfl rfl ?_
  exact ⟨_, _, rfl, inferInstance, inferInstance, (inferInstance : Kp w _).out⟩
  go_simp
  refine hd hK ?_
  clear hHeld hK K
  intro hHeld
  refine st 3 fun K hK => ?_
  go_simp
  refine hd hK ?_
  clear hHeld hK K
  intro hHeld
  refine tk 4 hHeld ?_
  refine tk 6 hHeld ?_
  refine dn ?_
  clear hHeld
  go_wp2
  refine ret_bt rfl Tryz.underlying31 rfl (by kernel_rfl) rfl rfl rfl ?_
  exact ⟨_, _, rfl, inferInstance, inferInstance, (inferInstance : Kp w _).out⟩
theorem pp_ttf {w w1 w2 w3 : World} {s : ByteArray} {a0 a1 a2 : Addr} [h0 : Snt w 0 a0 w1] [h1 : Snt w 2 a1 w2] [h2 : Snt w 1 a2 w3] (hne : a1 ≠ a0) (hne2 : a2 ≠ a0) (hsz : s.size ≤ 1000000) (hb1 : preB 40 s.data.toList = true) (hb2 : sufB 41 (preT 40 s.data.toList) = true) (hb3 : hasCom (inT s.data.toList) = false) :
    Calls Tryz.prog 13 #[.string s] w (ErrRet w (.agg #[.bool false, .slice none 0 0, .slice none 0 0, .bool false, .slice none 0 0, .slice none 0 0]) a0) := by
  have i0 := h0.here
  have i1 := h1.here
  have i2 := h2.here
  clear h0 h1 h2
  have hlen := str_len s
  have hl0 := preT_len 40 s.data.toList
  have hl1 : (inT s.data.toList).length ≤ (preT 40 s.data.toList).length := sufT_len 41 (preT 40 s.data.toList)
  have hl2 := comL_len (inT s.data.toList)
  have hl3 := comR_len (inT s.data.toList)
  rw [← hlen] at hl0
  have n0 : (preT 40 s.data.toList).length ≤ 1000000 := by omega
  have n1 : (inT s.data.toList).length ≤ 1000000 := by omega
  have n2 : (comL (inT s.data.toList)).length ≤ 1000000 := by omega
  have n3 : (comR (inT s.data.toList)).length ≤ 1000000 := by omega
  obtain ⟨p0, hp0⟩ : ∃ p, preT 40 s.data.toList = p := ⟨_, rfl⟩
  obtain ⟨p1, hp1⟩ : ∃ p, inT s.data.toList = p := ⟨_, rfl⟩
  have hp1' : sufT 41 p0 = p1 := by rw [← hp0]; exact hp1
  have HB1 : Hid (preB 40 s.data.toList = true ∧ preT 40 s.data.toList = p0) := ⟨hb1, hp0⟩
  rw [hp0] at hb2 n0
  rw [hp1] at hb3 n1 n2 n3
  have HB2 : Hid (sufB 41 p0 = true ∧ sufT 41 p0 = p1) := ⟨hb2, hp1'⟩
  obtain ⟨q1, hq1⟩ : ∃ p, comL p1 = p := ⟨_, rfl⟩
  obtain ⟨q2, hq2⟩ : ∃ p, comR p1 = p := ⟨_, rfl⟩
  have HB3 : Hid (hasCom p1 = false ∧ comL p1 = q1 ∧ comR p1 = q2) := ⟨hb3, hq1, hq2⟩
  rw [hq1] at n2
  rw [hq2] at n3
  clear hb1 hb2 hb3 hp0 hp1 hp1' hq1 hq2 hl0 hl1 hl2 hl3 hlen
  go_enter Tryz.func13, Tryz.ntmps13
  go_wp2_with fail
  with_reducible refine Calls.kStr (cpC lit40 (Lib.hid HB1.out.1)) (l' := p0) ⟨rfl, HB1.out.2⟩ ?_
  intro s1 hs1
  go_wp2_with fail
  with_reducible refine Calls.kStr (csC (size_le hs1 (n := 1000000000) (by omega)) lit41 (suf_hid hs1 HB2.out.1)) (l' := p1) ⟨rfl, sufT_eq hs1 HB2.out.2⟩ ?_
  intro s2 hs2
  go_wp2_with fail
  with_reducible refine Calls.kCom (comC s2 _ (size_le hs2 (n := 1000000000) (by omega))) (p := q1) (q := q2) (com_eq hs2 HB3.out) ?_
  intro W0 _ x y hx hy
  have hxs : x.size ≤ 1000000 := size_le hx n2
  have hys : y.size ≤ 1000000 := size_le hy n3
  go_wp2_with fail
  with_reducible refine Calls.kAny (rpAny hne hxs) ?_
  intro W1 _ g1 a1 l1 c1 aa1 ll1 cc1 er1
  go_wp2_with fail
  with_reducible refine Calls.kAny (rpAny hne hys) ?_
  intro W2 _ g2 a2 l2 c2 aa2 ll2 cc2 er2
  go_wp2_with (first
    | (go_at_call 18; (with_reducible refine Calls.cS (isNilC _) ?_))
    | (go_at_call 18; (with_reducible refine Calls.cS isSameC ?_))
    | (go_at_call 18; (with_reducible refine Calls.cS (isOtherC (g1 := 1) (g2 := 0) inferInstance inferInstance hne2) ?_)))
  refine rgn [w.heap.size] [] fun hHeld => ?_
  refine tk 0 hHeld ?_
  refine tk 1 hHeld ?_
  refine tk 2 hHeld ?_
  refine wpAnyT_ready (rs := [3, 5]) (by kernel_rfl) (by simp) ?_
  refine AllT.cons (by simp; rfl) (fun K hK => ?_) (AllT.cons (by simp; rfl) (fun K hK => ?_) AllT.nil)
  go_simp
  refine hd hK ?_
  clear hHeld hK K
  intro hHeld
  refine tk 4 hHeld ?_
  refine st 5 fun K hK => ?_
  go_simp
  refine hd hK ?_
  clear hHeld hK K
  intro hHeld
  refine tk 6 hHeld ?_
  refine dn ?_
  clear hHeld
  go_wp2
  refine ret_bt rfl Tryz.underlying31 rfl (by kernel_rfl) rfl rfl rfl ?_
  exact ⟨_, _, rfl, inferInstance, inferInstance, (inferInstance : Kp w _).out⟩
  go_simp
  refine hd hK ?_
  clear hHeld hK K
  intro hHeld
  refine st 3 fun K hK => ?_
  go_simp
  refine hd hK ?_
  clear hHeld hK K
  intro hHeld
  refine tk 4 hHeld ?_
  refine tk 6 hHeld ?_
  refine dn ?_
  clear hHeld
  go_wp2
  refine ret_bt rfl Tryz.underlying31 rfl (by kernel_rfl) rfl rfl rfl ?_
  exact ⟨_, _, rfl, inferInstance, inferInstance, (inferInstance : Kp w _).out⟩
theorem pp_1 {w w1 w2 w3 : World} {s : ByteArray} {a0 a1 a2 : Addr} [h0 : Snt w 0 a0 w1] [h1 : Snt w 2 a1 w2] [h2 : Snt w 1 a2 w3] (hne : a1 ≠ a0) (hne2 : a2 ≠ a0) (hsz : s.size ≤ 1000000) (hb1 : preB 40 s.data.toList = true) (hb2 : sufB 41 (preT 40 s.data.toList) = true) (hb3 : hasCom (inT s.data.toList) = true) (hk1 : rKind (comL (inT s.data.toList)) = 1) :
    Calls Tryz.prog 13 #[.string s] w (ErrRet w (.agg #[.bool false, .slice none 0 0, .slice none 0 0, .bool false, .slice none 0 0, .slice none 0 0]) a0) := by
  have i0 := h0.here
  have i1 := h1.here
  have i2 := h2.here
  clear h0 h1 h2
  have hlen := str_len s
  have hl0 := preT_len 40 s.data.toList
  have hl1 : (inT s.data.toList).length ≤ (preT 40 s.data.toList).length := sufT_len 41 (preT 40 s.data.toList)
  have hl2 := comL_len (inT s.data.toList)
  have hl3 := comR_len (inT s.data.toList)
  rw [← hlen] at hl0
  have n0 : (preT 40 s.data.toList).length ≤ 1000000 := by omega
  have n1 : (inT s.data.toList).length ≤ 1000000 := by omega
  have n2 : (comL (inT s.data.toList)).length ≤ 1000000 := by omega
  have n3 : (comR (inT s.data.toList)).length ≤ 1000000 := by omega
  obtain ⟨p0, hp0⟩ : ∃ p, preT 40 s.data.toList = p := ⟨_, rfl⟩
  obtain ⟨p1, hp1⟩ : ∃ p, inT s.data.toList = p := ⟨_, rfl⟩
  have hp1' : sufT 41 p0 = p1 := by rw [← hp0]; exact hp1
  have HB1 : Hid (preB 40 s.data.toList = true ∧ preT 40 s.data.toList = p0) := ⟨hb1, hp0⟩
  rw [hp0] at hb2 n0
  rw [hp1] at hb3 n1 n2 n3
  have HB2 : Hid (sufB 41 p0 = true ∧ sufT 41 p0 = p1) := ⟨hb2, hp1'⟩
  obtain ⟨q1, hq1⟩ : ∃ p, comL p1 = p := ⟨_, rfl⟩
  obtain ⟨q2, hq2⟩ : ∃ p, comR p1 = p := ⟨_, rfl⟩
  have HB3 : Hid (hasCom p1 = true ∧ comL p1 = q1 ∧ comR p1 = q2) := ⟨hb3, hq1, hq2⟩
  rw [hq1] at n2
  rw [hq2] at n3
  rw [hp1, hq1] at hk1
  have HK1 := Lib.hid hk1
  clear hk1
  clear hb1 hb2 hb3 hp0 hp1 hp1' hq1 hq2 hl0 hl1 hl2 hl3 hlen
  go_enter Tryz.func13, Tryz.ntmps13
  go_wp2_with fail
  with_reducible refine Calls.kStr (cpC lit40 (Lib.hid HB1.out.1)) (l' := p0) ⟨rfl, HB1.out.2⟩ ?_
  intro s1 hs1
  go_wp2_with fail
  with_reducible refine Calls.kStr (csC (size_le hs1 (n := 1000000000) (by omega)) lit41 (suf_hid hs1 HB2.out.1)) (l' := p1) ⟨rfl, sufT_eq hs1 HB2.out.2⟩ ?_
  intro s2 hs2
  go_wp2_with fail
  with_reducible refine Calls.kCom (comC s2 _ (size_le hs2 (n := 1000000000) (by omega))) (p := q1) (q := q2) (com_eq hs2 HB3.out) ?_
  intro W0 _ x y hx hy
  have hxs : x.size ≤ 1000000 := size_le hx n2
  have hys : y.size ≤ 1000000 := size_le hy n3
  go_wp2_with fail
  with_reducible refine Calls.kErr (rpK1 hne hxs hx.out HK1.out) ?_
  intro W1 _ b1 t1 _ _
  go_wp2_with fail
  with_reducible refine Calls.kAny (rpAny hne hys) ?_
  intro W2 _ g2 a2 l2 c2 aa2 ll2 cc2 er2
  go_wp2_with (first
    | (go_at_call 18; (with_reducible refine Calls.cS (isNilC _) ?_))
    | (go_at_call 18; (with_reducible refine Calls.cS isSameC ?_))
    | (go_at_call 18; (with_reducible refine Calls.cS (isOtherC (g1 := 1) (g2 := 0) inferInstance inferInstance hne2) ?_)))
  refine rgn [w.heap.size] [] fun hHeld => ?_
  refine tk 0 hHeld ?_
  refine tk 1 hHeld ?_
  refine tk 2 hHeld ?_
  refine wpAnyT_ready (rs := [3, 5]) (by kernel_rfl) (by simp) ?_
  refine AllT.cons (by simp; rfl) (fun K hK => ?_) (AllT.cons (by simp; rfl) (fun K hK => ?_) AllT.nil)
  go_simp
  refine hd hK ?_
  clear hHeld hK K
  intro hHeld
  refine tk 4 hHeld ?_
  refine st 5 fun K hK => ?_
  go_simp
  refine hd hK ?_
  clear hHeld hK K
  intro hHeld
  refine tk 6 hHeld ?_
  refine dn ?_
  clear hHeld
  go_wp2
  refine ret_bt rfl Tryz.underlying31 rfl (by kernel_rfl) rfl rfl rfl ?_
  exact ⟨_, _, rfl, inferInstance, inferInstance, (inferInstance : Kp w _).out⟩
  go_simp
  refine hd hK ?_
  clear hHeld hK K
  intro hHeld
  refine st 3 fun K hK => ?_
  go_simp
  refine hd hK ?_
  clear hHeld hK K
  intro hHeld
  refine tk 4 hHeld ?_
  refine tk 6 hHeld ?_
  refine dn ?_
  clear hHeld
  go_wp2
  refine ret_bt rfl Tryz.underlying31 rfl (by kernel_rfl) rfl rfl rfl ?_
  exact ⟨_, _, rfl, inferInstance, inferInstance, (inferInstance : Kp w _).out⟩
theorem pp_01 {w w1 w2 w3 : World} {s : ByteArray} {a0 a1 a2 : Addr} [h0 : Snt w 0 a0 w1] [h1 : Snt w 2 a1 w2] [h2 : Snt w 1 a2 w3] (hne : a1 ≠ a0) (hne2 : a2 ≠ a0) (hsz : s.size ≤ 1000000) (hb1 : preB 40 s.data.toList = true) (hb2 : sufB 41 (preT 40 s.data.toList) = true) (hb3 : hasCom (inT s.data.toList) = true) {x1 : Rat} (hk1 : rKind (comL (inT s.data.toList)) = 0 ∧ rVal (comL (inT s.data.toList)) = x1) (hk2 : rKind (comR (inT s.data.toList)) = 1) :
    Calls Tryz.prog 13 #[.string s] w (ErrRet w (.agg #[.bool false, .slice none 0 0, .slice none 0 0, .bool false, .slice none 0 0, .slice none 0 0]) a0) := by
  have i0 := h0.here
  have i1 := h1.here
  have i2 := h2.here
  clear h0 h1 h2
  have hlen := str_len s
  have hl0 := preT_len 40 s.data.toList
  have hl1 : (inT s.data.toList).length ≤ (preT 40 s.data.toList).length := sufT_len 41 (preT 40 s.data.toList)
  have hl2 := comL_len (inT s.data.toList)
  have hl3 := comR_len (inT s.data.toList)
  rw [← hlen] at hl0
  have n0 : (preT 40 s.data.toList).length ≤ 1000000 := by omega
  have n1 : (inT s.data.toList).length ≤ 1000000 := by omega
  have n2 : (comL (inT s.data.toList)).length ≤ 1000000 := by omega
  have n3 : (comR (inT s.data.toList)).length ≤ 1000000 := by omega
  obtain ⟨p0, hp0⟩ : ∃ p, preT 40 s.data.toList = p := ⟨_, rfl⟩
  obtain ⟨p1, hp1⟩ : ∃ p, inT s.data.toList = p := ⟨_, rfl⟩
  have hp1' : sufT 41 p0 = p1 := by rw [← hp0]; exact hp1
  have HB1 : Hid (preB 40 s.data.toList = true ∧ preT 40 s.data.toList = p0) := ⟨hb1, hp0⟩
  rw [hp0] at hb2 n0
  rw [hp1] at hb3 n1 n2 n3
  have HB2 : Hid (sufB 41 p0 = true ∧ sufT 41 p0 = p1) := ⟨hb2, hp1'⟩
  obtain ⟨q1, hq1⟩ : ∃ p, comL p1 = p := ⟨_, rfl⟩
  obtain ⟨q2, hq2⟩ : ∃ p, comR p1 = p := ⟨_, rfl⟩
  have HB3 : Hid (hasCom p1 = true ∧ comL p1 = q1 ∧ comR p1 = q2) := ⟨hb3, hq1, hq2⟩
  rw [hq1] at n2
  rw [hq2] at n3
  rw [hp1, hq1] at hk1
  have HK1 := Lib.hid hk1
  clear hk1
  rw [hp1, hq2] at hk2
  have HK2 := Lib.hid hk2
  clear hk2
  clear hb1 hb2 hb3 hp0 hp1 hp1' hq1 hq2 hl0 hl1 hl2 hl3 hlen
  go_enter Tryz.func13, Tryz.ntmps13
  go_wp2_with fail
  with_reducible refine Calls.kStr (cpC lit40 (Lib.hid HB1.out.1)) (l' := p0) ⟨rfl, HB1.out.2⟩ ?_
  intro s1 hs1
  go_wp2_with fail
  with_reducible refine Calls.kStr (csC (size_le hs1 (n := 1000000000) (by omega)) lit41 (suf_hid hs1 HB2.out.1)) (l' := p1) ⟨rfl, sufT_eq hs1 HB2.out.2⟩ ?_
  intro s2 hs2
  go_wp2_with fail
  with_reducible refine Calls.kCom (comC s2 _ (size_le hs2 (n := 1000000000) (by omega))) (p := q1) (q := q2) (com_eq hs2 HB3.out) ?_
  intro W0 _ x y hx hy
  have hxs : x.size ≤ 1000000 := size_le hx n2
  have hys : y.size ≤ 1000000 := size_le hy n3
  go_wp2_with fail
  with_reducible refine Calls.kRat (rpK0 hne hxs hx.out HK1.out) ?_
  intro W1 _ g1 a1 l1 c1 aa1 ll1 cc1 _
  go_wp2_with fail
  with_reducible refine Calls.kErr (rpK1 hne hys hy.out HK2.out) ?_
  intro W2 _ b2 t2 _ _
  go_wp2_with (first
    | (go_at_call 18; (with_reducible refine Calls.cS (isNilC _) ?_))
    | (go_at_call 18; (with_reducible refine Calls.cS isSameC ?_))
    | (go_at_call 18; (with_reducible refine Calls.cS (isOtherC (g1 := 1) (g2 := 0) inferInstance inferInstance hne2) ?_)))
  refine rgn [w.heap.size] [] fun hHeld => ?_
  refine tk 0 hHeld ?_
  refine tk 1 hHeld ?_
  refine tk 2 hHeld ?_
  refine wpAnyT_ready (rs := [3, 5]) (by kernel_rfl) (by simp) ?_
  refine AllT.cons (by simp; rfl) (fun K hK => ?_) (AllT.cons (by simp; rfl) (fun K hK => ?_) AllT.nil)
  go_simp
  refine hd hK ?_
  clear hHeld hK K
  intro hHeld
  refine tk 4 hHeld ?_
  refine st 5 fun K hK => ?_
  go_simp
  refine hd hK ?_
  clear hHeld hK K
  intro hHeld
  refine tk 6 hHeld ?_
  refine dn ?_
  clear hHeld
  go_wp2
  refine ret_bt rfl Tryz.underlying31 rfl (by kernel_rfl) rfl rfl rfl ?_
  exact ⟨_, _, rfl, inferInstance, inferInstance, (inferInstance : Kp w _).out⟩
  go_simp
  refine hd hK ?_
  clear hHeld hK K
  intro hHeld
  refine st 3 fun K hK => ?_
  go_simp
  refine hd hK ?_
  clear hHeld hK K
  intro hHeld
  refine tk 4 hHeld ?_
  refine tk 6 hHeld ?_
  refine dn ?_
  clear hHeld
  go_wp2
  refine ret_bt rfl Tryz.underlying31 rfl (by kernel_rfl) rfl rfl rfl ?_
  exact ⟨_, _, rfl, inferInstance, inferInstance, (inferInstance : Kp w _).out⟩
theorem pp_31 {w w1 w2 w3 : World} {s : ByteArray} {a0 a1 a2 : Addr} [h0 : Snt w 0 a0 w1] [h1 : Snt w 2 a1 w2] [h2 : Snt w 1 a2 w3] (hne : a1 ≠ a0) (hne2 : a2 ≠ a0) (hsz : s.size ≤ 1000000) (hb1 : preB 40 s.data.toList = true) (hb2 : sufB 41 (preT 40 s.data.toList) = true) (hb3 : hasCom (inT s.data.toList) = true) (hk1 : rKind (comL (inT s.data.toList)) = 3) (hk2 : rKind (comR (inT s.data.toList)) = 1) :
    Calls Tryz.prog 13 #[.string s] w (ErrRet w (.agg #[.bool false, .slice none 0 0, .slice none 0 0, .bool false, .slice none 0 0, .slice none 0 0]) a0) := by
  have i0 := h0.here
  have i1 := h1.here
  have i2 := h2.here
  clear h0 h1 h2
  have hlen := str_len s
  have hl0 := preT_len 40 s.data.toList
  have hl1 : (inT s.data.toList).length ≤ (preT 40 s.data.toList).length := sufT_len 41 (preT 40 s.data.toList)
  have hl2 := comL_len (inT s.data.toList)
  have hl3 := comR_len (inT s.data.toList)
  rw [← hlen] at hl0
  have n0 : (preT 40 s.data.toList).length ≤ 1000000 := by omega
  have n1 : (inT s.data.toList).length ≤ 1000000 := by omega
  have n2 : (comL (inT s.data.toList)).length ≤ 1000000 := by omega
  have n3 : (comR (inT s.data.toList)).length ≤ 1000000 := by omega
  obtain ⟨p0, hp0⟩ : ∃ p, preT 40 s.data.toList = p := ⟨_, rfl⟩
  obtain ⟨p1, hp1⟩ : ∃ p, inT s.data.toList = p := ⟨_, rfl⟩
  have hp1' : sufT 41 p0 = p1 := by rw [← hp0]; exact hp1
  have HB1 : Hid (preB 40 s.data.toList = true ∧ preT 40 s.data.toList = p0) := ⟨hb1, hp0⟩
  rw [hp0] at hb2 n0
  rw [hp1] at hb3 n1 n2 n3
  have HB2 : Hid (sufB 41 p0 = true ∧ sufT 41 p0 = p1) := ⟨hb2, hp1'⟩
  obtain ⟨q1, hq1⟩ : ∃ p, comL p1 = p := ⟨_, rfl⟩
  obtain ⟨q2, hq2⟩ : ∃ p, comR p1 = p := ⟨_, rfl⟩
  have HB3 : Hid (hasCom p1 = true ∧ comL p1 = q1 ∧ comR p1 = q2) := ⟨hb3, hq1, hq2⟩
  rw [hq1] at n2
  rw [hq2] at n3
  rw [hp1, hq1] at hk1
  have HK1 := Lib.hid hk1
  clear hk1
  rw [hp1, hq2] at hk2
  have HK2 := Lib.hid hk2
  clear hk2
  clear hb1 hb2 hb3 hp0 hp1 hp1' hq1 hq2 hl0 hl1 hl2 hl3 hlen
  go_enter Tryz.func13, Tryz.ntmps13
  go_wp2_with fail
  with_reducible refine Calls.kStr (cpC lit40 (Lib.hid HB1.out.1)) (l' := p0) ⟨rfl, HB1.out.2⟩ ?_
  intro s1 hs1
  go_wp2_with fail
  with_reducible refine Calls.kStr (csC (size_le hs1 (n := 1000000000) (by omega)) lit41 (suf_hid hs1 HB2.out.1)) (l' := p1) ⟨rfl, sufT_eq hs1 HB2.out.2⟩ ?_
  intro s2 hs2
  go_wp2_with fail
  with_reducible refine Calls.kCom (comC s2 _ (size_le hs2 (n := 1000000000) (by omega))) (p := q1) (q := q2) (com_eq hs2 HB3.out) ?_
  intro W0 _ x y hx hy
  have hxs : x.size ≤ 1000000 := size_le hx n2
  have hys : y.size ≤ 1000000 := size_le hy n3
  go_wp2_with fail
  with_reducible refine Calls.kErr (rpK3 hne hxs hx.out HK1.out) ?_
  intro W1 _ b1 t1 _ _
  go_wp2_with fail
  with_reducible refine Calls.kErr (rpK1 hne hys hy.out HK2.out) ?_
  intro W2 _ b2 t2 _ _
  go_wp2_with (first
    | (go_at_call 18; (with_reducible refine Calls.cS (isNilC _) ?_))
    | (go_at_call 18; (with_reducible refine Calls.cS isSameC ?_))
    | (go_at_call 18; (with_reducible refine Calls.cS (isOtherC (g1 := 1) (g2 := 0) inferInstance inferInstance hne2) ?_)))
  refine rgn [w.heap.size] [] fun hHeld => ?_
  refine tk 0 hHeld ?_
  refine tk 1 hHeld ?_
  refine tk 2 hHeld ?_
  refine wpAnyT_ready (rs := [3, 5]) (by kernel_rfl) (by simp) ?_
  refine AllT.cons (by simp; rfl) (fun K hK => ?_) (AllT.cons (by simp; rfl) (fun K hK => ?_) AllT.nil)
  go_simp
  refine hd hK ?_
  clear hHeld hK K
  intro hHeld
  refine tk 4 hHeld ?_
  refine st 5 fun K hK => ?_
  go_simp
  refine hd hK ?_
  clear hHeld hK K
  intro hHeld
  refine tk 6 hHeld ?_
  refine dn ?_
  clear hHeld
  go_wp2
  refine ret_bt rfl Tryz.underlying31 rfl (by kernel_rfl) rfl rfl rfl ?_
  exact ⟨_, _, rfl, inferInstance, inferInstance, (inferInstance : Kp w _).out⟩
  go_simp
  refine hd hK ?_
  clear hHeld hK K
  intro hHeld
  refine st 3 fun K hK => ?_
  go_simp
  refine hd hK ?_
  clear hHeld hK K
  intro hHeld
  refine tk 4 hHeld ?_
  refine tk 6 hHeld ?_
  refine dn ?_
  clear hHeld
  go_wp2
  refine ret_bt rfl Tryz.underlying31 rfl (by kernel_rfl) rfl rfl rfl ?_
  exact ⟨_, _, rfl, inferInstance, inferInstance, (inferInstance : Kp w _).out⟩
theorem pp_30 {w w1 w2 w3 : World} {s : ByteArray} {a0 a1 a2 : Addr} [h0 : Snt w 0 a0 w1] [h1 : Snt w 2 a1 w2] [h2 : Snt w 1 a2 w3] (hne : a1 ≠ a0) (hne2 : a2 ≠ a0) (hsz : s.size ≤ 1000000) (hb1 : preB 40 s.data.toList = true) (hb2 : sufB 41 (preT 40 s.data.toList) = true) (hb3 : hasCom (inT s.data.toList) = true) (hk1 : rKind (comL (inT s.data.toList)) = 3) {x2 : Rat} (hk2 : rKind (comR (inT s.data.toList)) = 0 ∧ rVal (comR (inT s.data.toList)) = x2) :
    Calls Tryz.prog 13 #[.string s] w (ErrRet w (.agg #[.bool false, .slice none 0 0, .slice none 0 0, .bool false, .slice none 0 0, .slice none 0 0]) a2) := by
  have i0 := h0.here
  have i1 := h1.here
  have i2 := h2.here
  clear h0 h1 h2
  have hlen := str_len s
  have hl0 := preT_len 40 s.data.toList
  have hl1 : (inT s.data.toList).length ≤ (preT 40 s.data.toList).length := sufT_len 41 (preT 40 s.data.toList)
  have hl2 := comL_len (inT s.data.toList)
  have hl3 := comR_len (inT s.data.toList)
  rw [← hlen] at hl0
  have n0 : (preT 40 s.data.toList).length ≤ 1000000 := by omega
  have n1 : (inT s.data.toList).length ≤ 1000000 := by omega
  have n2 : (comL (inT s.data.toList)).length ≤ 1000000 := by omega
  have n3 : (comR (inT s.data.toList)).length ≤ 1000000 := by omega
  obtain ⟨p0, hp0⟩ : ∃ p, preT 40 s.data.toList = p := ⟨_, rfl⟩
  obtain ⟨p1, hp1⟩ : ∃ p, inT s.data.toList = p := ⟨_, rfl⟩
  have hp1' : sufT 41 p0 = p1 := by rw [← hp0]; exact hp1
  have HB1 : Hid (preB 40 s.data.toList = true ∧ preT 40 s.data.toList = p0) := ⟨hb1, hp0⟩
  rw [hp0] at hb2 n0
  rw [hp1] at hb3 n1 n2 n3
  have HB2 : Hid (sufB 41 p0 = true ∧ sufT 41 p0 = p1) := ⟨hb2, hp1'⟩
  obtain ⟨q1, hq1⟩ : ∃ p, comL p1 = p := ⟨_, rfl⟩
  obtain ⟨q2, hq2⟩ : ∃ p, comR p1 = p := ⟨_, rfl⟩
  have HB3 : Hid (hasCom p1 = true ∧ comL p1 = q1 ∧ comR p1 = q2) := ⟨hb3, hq1, hq2⟩
  rw [hq1] at n2
  rw [hq2] at n3
  rw [hp1, hq1] at hk1
  have HK1 := Lib.hid hk1
  clear hk1
  rw [hp1, hq2] at hk2
  have HK2 := Lib.hid hk2
  clear hk2
  clear hb1 hb2 hb3 hp0 hp1 hp1' hq1 hq2 hl0 hl1 hl2 hl3 hlen
  go_enter Tryz.func13, Tryz.ntmps13
  go_wp2_with fail
  with_reducible refine Calls.kStr (cpC lit40 (Lib.hid HB1.out.1)) (l' := p0) ⟨rfl, HB1.out.2⟩ ?_
  intro s1 hs1
  go_wp2_with fail
  with_reducible refine Calls.kStr (csC (size_le hs1 (n := 1000000000) (by omega)) lit41 (suf_hid hs1 HB2.out.1)) (l' := p1) ⟨rfl, sufT_eq hs1 HB2.out.2⟩ ?_
  intro s2 hs2
  go_wp2_with fail
  with_reducible refine Calls.kCom (comC s2 _ (size_le hs2 (n := 1000000000) (by omega))) (p := q1) (q := q2) (com_eq hs2 HB3.out) ?_
  intro W0 _ x y hx hy
  have hxs : x.size ≤ 1000000 := size_le hx n2
  have hys : y.size ≤ 1000000 := size_le hy n3
  go_wp2_with fail
  with_reducible refine Calls.kErr (rpK3 hne hxs hx.out HK1.out) ?_
  intro W1 _ b1 t1 _ _
  go_wp2_with fail
  with_reducible refine Calls.kRat (rpK0 hne hys hy.out HK2.out) ?_
  intro W2 _ g2 a2 l2 c2 aa2 ll2 cc2 _
  go_wp2_with (first
    | (go_at_call 18; (with_reducible refine Calls.cS (isNilC _) ?_))
    | (go_at_call 18; (with_reducible refine Calls.cS isSameC ?_))
    | (go_at_call 18; (with_reducible refine Calls.cS (isOtherC (g1 := 1) (g2 := 0) inferInstance inferInstance hne2) ?_)))
  refine ret_bt rfl Tryz.underlying31 rfl (by kernel_rfl) rfl rfl rfl ?_
  exact ⟨_, _, rfl, inferInstance, inferInstance, (inferInstance : Kp w _).out⟩
theorem pp_33 {w w1 w2 w3 : World} {s : ByteArray} {a0 a1 a2 : Addr} [h0 : Snt w 0 a0 w1] [h1 : Snt w 2 a1 w2] [h2 : Snt w 1 a2 w3] (hne : a1 ≠ a0) (hne2 : a2 ≠ a0) (hsz : s.size ≤ 1000000) (hb1 : preB 40 s.data.toList = true) (hb2 : sufB 41 (preT 40 s.data.toList) = true) (hb3 : hasCom (inT s.data.toList) = true) (hk1 : rKind (comL (inT s.data.toList)) = 3) (hk2 : rKind (comR (inT s.data.toList)) = 3) :
    Calls Tryz.prog 13 #[.string s] w (ErrRet w (.agg #[.bool false, .slice none 0 0, .slice none 0 0, .bool false, .slice none 0 0, .slice none 0 0]) a2) := by
  have i0 := h0.here
  have i1 := h1.here
  have i2 := h2.here
  clear h0 h1 h2
  have hlen := str_len s
  have hl0 := preT_len 40 s.data.toList
  have hl1 : (inT s.data.toList).length ≤ (preT 40 s.data.toList).length := sufT_len 41 (preT 40 s.data.toList)
  have hl2 := comL_len (inT s.data.toList)
  have hl3 := comR_len (inT s.data.toList)
  rw [← hlen] at hl0
  have n0 : (preT 40 s.data.toList).length ≤ 1000000 := by omega
  have n1 : (inT s.data.toList).length ≤ 1000000 := by omega
  have n2 : (comL (inT s.data.toList)).length ≤ 1000000 := by omega
  have n3 : (comR (inT s.data.toList)).length ≤ 1000000 := by omega
  obtain ⟨p0, hp0⟩ : ∃ p, preT 40 s.data.toList = p := ⟨_, rfl⟩
  obtain ⟨p1, hp1⟩ : ∃ p, inT s.data.toList = p := ⟨_, rfl⟩
  have hp1' : sufT 41 p0 = p1 := by rw [← hp0]; exact hp1
  have HB1 : Hid (preB 40 s.data.toList = true ∧ preT 40 s.data.toList = p0) := ⟨hb1, hp0⟩
  rw [hp0] at hb2 n0
  rw [hp1] at hb3 n1 n2 n3
  have HB2 : Hid (sufB 41 p0 = true ∧ sufT 41 p0 = p1) := ⟨hb2, hp1'⟩
  obtain ⟨q1, hq1⟩ : ∃ p, comL p1 = p := ⟨_, rfl⟩
  obtain ⟨q2, hq2⟩ : ∃ p, comR p1 = p := ⟨_, rfl⟩
  have HB3 : Hid (hasCom p1 = true ∧ comL p1 = q1 ∧ comR p1 = q2) := ⟨hb3, hq1, hq2⟩
  rw [hq1] at n2
  rw [hq2] at n3
  rw [hp1, hq1] at hk1
  have HK1 := Lib.hid hk1
  clear hk1
  rw [hp1, hq2] at hk2
  have HK2 := Lib.hid hk2
  clear hk2
  clear hb1 hb2 hb3 hp0 hp1 hp1' hq1 hq2 hl0 hl1 hl2 hl3 hlen
  go_enter Tryz.func13, Tryz.ntmps13
  go_wp2_with fail
  with_reducible refine Calls.kStr (cpC lit40 (Lib.hid HB1.out.1)) (l' := p0) ⟨rfl, HB1.out.2⟩ ?_
  intro s1 hs1
  go_wp2_with fail
  with_reducible refine Calls.kStr (csC (size_le hs1 (n := 1000000000) (by omega)) lit41 (suf_hid hs1 HB2.out.1)) (l' := p1) ⟨rfl, sufT_eq hs1 HB2.out.2⟩ ?_
  intro s2 hs2
  go_wp2_with fail
  with_reducible refine Calls.kCom (comC s2 _ (size_le hs2 (n := 1000000000) (by omega))) (p := q1) (q := q2) (com_eq hs2 HB3.out) ?_
  intro W0 _ x y hx hy
  have hxs : x.size ≤ 1000000 := size_le hx n2
  have hys : y.size ≤ 1000000 := size_le hy n3
  go_wp2_with fail
  with_reducible refine Calls.kErr (rpK3 hne hxs hx.out HK1.out) ?_
  intro W1 _ b1 t1 _ _
  go_wp2_with fail
  with_reducible refine Calls.kErr (rpK3 hne hys hy.out HK2.out) ?_
  intro W2 _ b2 t2 _ _
  go_wp2_with (first
    | (go_at_call 18; (with_reducible refine Calls.cS (isNilC _) ?_))
    | (go_at_call 18; (with_reducible refine Calls.cS isSameC ?_))
    | (go_at_call 18; (with_reducible refine Calls.cS (isOtherC (g1 := 1) (g2 := 0) inferInstance inferInstance hne2) ?_)))
  refine ret_bt rfl Tryz.underlying31 rfl (by kernel_rfl) rfl rfl rfl ?_
  exact ⟨_, _, rfl, inferInstance, inferInstance, (inferInstance : Kp w _).out⟩
theorem pp_03 {w w1 w2 w3 : World} {s : ByteArray} {a0 a1 a2 : Addr} [h0 : Snt w 0 a0 w1] [h1 : Snt w 2 a1 w2] [h2 : Snt w 1 a2 w3] (hne : a1 ≠ a0) (hne2 : a2 ≠ a0) (hsz : s.size ≤ 1000000) (hb1 : preB 40 s.data.toList = true) (hb2 : sufB 41 (preT 40 s.data.toList) = true) (hb3 : hasCom (inT s.data.toList) = true) {x1 : Rat} (hk1 : rKind (comL (inT s.data.toList)) = 0 ∧ rVal (comL (inT s.data.toList)) = x1) (hk2 : rKind (comR (inT s.data.toList)) = 3) :
    Calls Tryz.prog 13 #[.string s] w (ErrRet w (.agg #[.bool false, .slice none 0 0, .slice none 0 0, .bool false, .slice none 0 0, .slice none 0 0]) a2) := by
  have i0 := h0.here
  have i1 := h1.here
  have i2 := h2.here
  clear h0 h1 h2
  have hlen := str_len s
  have hl0 := preT_len 40 s.data.toList
  have hl1 : (inT s.data.toList).length ≤ (preT 40 s.data.toList).length := sufT_len 41 (preT 40 s.data.toList)
  have hl2 := comL_len (inT s.data.toList)
  have hl3 := comR_len (inT s.data.toList)
  rw [← hlen] at hl0
  have n0 : (preT 40 s.data.toList).length ≤ 1000000 := by omega
  have n1 : (inT s.data.toList).length ≤ 1000000 := by omega
  have n2 : (comL (inT s.data.toList)).length ≤ 1000000 := by omega
  have n3 : (comR (inT s.data.toList)).length ≤ 1000000 := by omega
  obtain ⟨p0, hp0⟩ : ∃ p, preT 40 s.data.toList = p := ⟨_, rfl⟩
  obtain ⟨p1, hp1⟩ : ∃ p, inT s.data.toList = p := ⟨_, rfl⟩
  have hp1' : sufT 41 p0 = p1 := by rw [← hp0]; exact hp1
  have HB1 : Hid (preB 40 s.data.toList = true ∧ preT 40 s.data.toList = p0) := ⟨hb1, hp0⟩
  rw [hp0] at hb2 n0
  rw [hp1] at hb3 n1 n2 n3
  have HB2 : Hid (sufB 41 p0 = true ∧ sufT 41 p0 = p1) := ⟨hb2, hp1'⟩
  obtain ⟨q1, hq1⟩ : ∃ p, comL p1 = p := ⟨_, rfl⟩
  obtain ⟨q2, hq2⟩ : ∃ p, comR p1 = p := ⟨_, rfl⟩
  have HB3 : Hid (hasCom p1 = true ∧ comL p1 = q1 ∧ comR p1 = q2) := ⟨hb3, hq1, hq2⟩
  rw [hq1] at n2
  rw [hq2] at n3
  rw [hp1, hq1] at hk1
  have HK1 := Lib.hid hk1
  clear hk1
  rw [hp1, hq2] at hk2
  have HK2 := Lib.hid hk2
  clear hk2
  clear hb1 hb2 hb3 hp0 hp1 hp1' hq1 hq2 hl0 hl1 hl2 hl3 hlen
  go_enter Tryz.func13, Tryz.ntmps13
  go_wp2_with fail
  with_reducible refine Calls.kStr (cpC lit40 (Lib.hid HB1.out.1)) (l' := p0) ⟨rfl, HB1.out.2⟩ ?_
  intro s1 hs1
  go_wp2_with fail
  with_reducible refine Calls.kStr (csC (size_le hs1 (n := 1000000000) (by omega)) lit41 (suf_hid hs1 HB2.out.1)) (l' := p1) ⟨rfl, sufT_eq hs1 HB2.out.2⟩ ?_
  intro s2 hs2
  go_wp2_with fail
  with_reducible refine Calls.kCom (comC s2 _ (size_le hs2 (n := 1000000000) (by omega))) (p := q1) (q := q2) (com_eq hs2 HB3.out) ?_
  intro W0 _ x y hx hy
  have hxs : x.size ≤ 1000000 := size_le hx n2
  have hys : y.size ≤ 1000000 := size_le hy n3
  go_wp2_with fail
  with_reducible refine Calls.kRat (rpK0 hne hxs hx.out HK1.out) ?_
  intro W1 _ g1 a1 l1 c1 aa1 ll1 cc1 _
  go_wp2_with fail
  with_reducible refine Calls.kErr (rpK3 hne hys hy.out HK2.out) ?_
  intro W2 _ b2 t2 _ _
  go_wp2_with (first
    | (go_at_call 18; (with_reducible refine Calls.cS (isNilC _) ?_))
    | (go_at_call 18; (with_reducible refine Calls.cS isSameC ?_))
    | (go_at_call 18; (with_reducible refine Calls.cS (isOtherC (g1 := 1) (g2 := 0) inferInstance inferInstance hne2) ?_)))
  refine ret_bt rfl Tryz.underlying31 rfl (by kernel_rfl) rfl rfl rfl ?_
  exact ⟨_, _, rfl, inferInstance, inferInstance, (inferInstance : Kp w _).out⟩
theorem pp_00 {w w1 w2 w3 : World} {s : ByteArray} {a0 a1 a2 : Addr} [h0 : Snt w 0 a0 w1] [h1 : Snt w 2 a1 w2] [h2 : Snt w 1 a2 w3] (hne : a1 ≠ a0) (hne2 : a2 ≠ a0) (hsz : s.size ≤ 1000000) (hb1 : preB 40 s.data.toList = true) (hb2 : sufB 41 (preT 40 s.data.toList) = true) (hb3 : hasCom (inT s.data.toList) = true) {x1 : Rat} (hk1 : rKind (comL (inT s.data.toList)) = 0 ∧ rVal (comL (inT s.data.toList)) = x1) {x2 : Rat} (hk2 : rKind (comR (inT s.data.toList)) = 0 ∧ rVal (comR (inT s.data.toList)) = x2) :
    Calls Tryz.prog 13 #[.string s] w (PtRet w x1 x2 5000) := by
  have i0 := h0.here
  have i1 := h1.here
  have i2 := h2.here
  clear h0 h1 h2
  have hlen := str_len s
  have hl0 := preT_len 40 s.data.toList
  have hl1 : (inT s.data.toList).length ≤ (preT 40 s.data.toList).length := sufT_len 41 (preT 40 s.data.toList)
  have hl2 := comL_len (inT s.data.toList)
  have hl3 := comR_len (inT s.data.toList)
  rw [← hlen] at hl0
  have n0 : (preT 40 s.data.toList).length ≤ 1000000 := by omega
  have n1 : (inT s.data.toList).length ≤ 1000000 := by omega
  have n2 : (comL (inT s.data.toList)).length ≤ 1000000 := by omega
  have n3 : (comR (inT s.data.toList)).length ≤ 1000000 := by omega
  obtain ⟨p0, hp0⟩ : ∃ p, preT 40 s.data.toList = p := ⟨_, rfl⟩
  obtain ⟨p1, hp1⟩ : ∃ p, inT s.data.toList = p := ⟨_, rfl⟩
  have hp1' : sufT 41 p0 = p1 := by rw [← hp0]; exact hp1
  have HB1 : Hid (preB 40 s.data.toList = true ∧ preT 40 s.data.toList = p0) := ⟨hb1, hp0⟩
  rw [hp0] at hb2 n0
  rw [hp1] at hb3 n1 n2 n3
  have HB2 : Hid (sufB 41 p0 = true ∧ sufT 41 p0 = p1) := ⟨hb2, hp1'⟩
  obtain ⟨q1, hq1⟩ : ∃ p, comL p1 = p := ⟨_, rfl⟩
  obtain ⟨q2, hq2⟩ : ∃ p, comR p1 = p := ⟨_, rfl⟩
  have HB3 : Hid (hasCom p1 = true ∧ comL p1 = q1 ∧ comR p1 = q2) := ⟨hb3, hq1, hq2⟩
  rw [hq1] at n2
  rw [hq2] at n3
  rw [hp1, hq1] at hk1
  have HK1 := Lib.hid hk1
  clear hk1
  rw [hp1, hq2] at hk2
  have HK2 := Lib.hid hk2
  clear hk2
  clear hb1 hb2 hb3 hp0 hp1 hp1' hq1 hq2 hl0 hl1 hl2 hl3 hlen
  go_enter Tryz.func13, Tryz.ntmps13
  go_wp2_with fail
  with_reducible refine Calls.kStr (cpC lit40 (Lib.hid HB1.out.1)) (l' := p0) ⟨rfl, HB1.out.2⟩ ?_
  intro s1 hs1
  go_wp2_with fail
  with_reducible refine Calls.kStr (csC (size_le hs1 (n := 1000000000) (by omega)) lit41 (suf_hid hs1 HB2.out.1)) (l' := p1) ⟨rfl, sufT_eq hs1 HB2.out.2⟩ ?_
  intro s2 hs2
  go_wp2_with fail
  with_reducible refine Calls.kCom (comC s2 _ (size_le hs2 (n := 1000000000) (by omega))) (p := q1) (q := q2) (com_eq hs2 HB3.out) ?_
  intro W0 _ x y hx hy
  have hxs : x.size ≤ 1000000 := size_le hx n2
  have hys : y.size ≤ 1000000 := size_le hy n3
  go_wp2_with fail
  with_reducible refine Calls.kRat (rpK0 hne hxs hx.out HK1.out) ?_
  intro W1 _ g1 a1 l1 c1 aa1 ll1 cc1 _
  go_wp2_with fail
  with_reducible refine Calls.kRat (rpK0 hne hys hy.out HK2.out) ?_
  intro W2 _ g2 a2 l2 c2 aa2 ll2 cc2 _
  go_wp2_with (first
    | (go_at_call 18; (with_reducible refine Calls.cS (isNilC _) ?_))
    | (go_at_call 18; (with_reducible refine Calls.cS isSameC ?_))
    | (go_at_call 18; (with_reducible refine Calls.cS (isOtherC (g1 := 1) (g2 := 0) inferInstance inferInstance hne2) ?_)))
  refine ret_bt rfl Tryz.underlying31 rfl (by kernel_rfl) rfl rfl rfl ?_
  exact ⟨_, _, _, _, _, _, _, _, _, _, _, _, _, _, rfl, inferInstance, inferInstance, (inferInstance : Kp w _).out⟩
end Go.Proofs.YtdlnoeegboapkaaGreatDoor

/- Plain laws of the texts of points; ref01.ReadQ by the kind of its text. printed by a small program (mkpt3.py). -/
namespace Go.Proofs.YtdlnoeegboapkaaGreatDoor
open Go.RowKit
set_option maxRecDepth 100000
set_option maxHeartbeats 4000000
set_option linter.unusedVariables false
set_option linter.unusedSimpArgs false

theorem comAt_app (r : List UInt8) : ∀ p : List UInt8, (∀ b ∈ p, b ≠ 44) → comAt (p ++ 44 :: r) = p.length
  | [], _ => by unfold comAt; rw [List.nil_append, List.findIdx_cons]; rfl
  | b :: p, h => by
    have ih := comAt_app r p fun c hc => h c (List.mem_cons_of_mem _ hc)
    have hb : (b == 44) = false := by rw [beq_eq_false_iff_ne]; exact h b (List.mem_cons_self ..)
    unfold comAt at *
    rw [List.cons_append, List.findIdx_cons, hb, ih]
    rfl
theorem hasCom_app (p r : List UInt8) : hasCom (p ++ 44 :: r) = true := by unfold hasCom; simp
theorem comL_app {p r : List UInt8} (h : ∀ b ∈ p, b ≠ 44) : comL (p ++ 44 :: r) = p := by
  unfold comL
  rw [if_pos (hasCom_app p r), comAt_app r p h, List.take_left]
theorem comR_app {p r : List UInt8} (h : ∀ b ∈ p, b ≠ 44) : comR (p ++ 44 :: r) = r := by
  unfold comR
  rw [if_pos (hasCom_app p r), comAt_app r p h]
  simp
theorem isD_ne44 {b : UInt8} (h : isD b = true) : b ≠ 44 := fun e => by subst e; exact absurd h (by decide)
theorem decI_ne44 (z : Int) : ∀ b ∈ (decI z).data.toList, b ≠ 44 := by
  intro b hb
  unfold decI at hb
  split at hb
  · rw [ByteArray.data_append, Array.toList_append, decStr_data] at hb
    rcases List.mem_append.1 hb with h | h
    · have : b = 45 := by simpa using h
      subst this; decide
    · exact isD_ne44 (decL_isD _ b h)
  · rw [decStr_data] at hb; exact isD_ne44 (decL_isD _ b hb)
theorem fmtQ_ne44 (x : Rat) : ∀ b ∈ (fmtQ x).data.toList, b ≠ 44 := by
  intro b hb
  unfold fmtQ at hb
  split at hb
  · exact decI_ne44 _ b hb
  · rw [ByteArray.data_append, Array.toList_append, ByteArray.data_append, Array.toList_append, decStr_data] at hb
    rcases List.mem_append.1 hb with h | h
    · exact decI_ne44 _ b h
    · rcases List.mem_append.1 h with h | h
      · have : b = 47 := by simpa using h
        subst this; decide
      · exact isD_ne44 (decL_isD _ b h)
/-- A written number, read. -/
theorem fmtQ_kind {x : Rat} (h1 : (dl x.num.natAbs).length ≤ 4000) (h2 : (dl x.den).length ≤ 4000) : rKind (fmtQ x).data.toList = 0 ∧ rVal (fmtQ x).data.toList = x := by
  by_cases hd : x.den = 1
  · obtain ⟨a, b, c⟩ := fmtQ_int hd h1
    unfold rKind rVal rKindF
    rw [a, b, c]
    refine ⟨by simp, ?_⟩
    conv => rhs; rw [← Rat.mkRat_self x, hd]
    rfl
  · obtain ⟨a, ⟨b, c⟩, d, e⟩ := fmtQ_frac hd h1 h2
    unfold rKind rVal rKindF
    rw [a, b, c, d, e]
    refine ⟨by simp [x.den_nz], ?_⟩
    rw [if_pos rfl]
    exact Rat.mkRat_self x
/-- The text of a point. -/
def ptT (s t : ByteArray) : ByteArray := ⟨#[40]⟩ ++ s ++ ⟨#[44]⟩ ++ t ++ ⟨#[41]⟩
theorem ptT_data (s t : ByteArray) : (ptT s t).data.toList = 40 :: ((s.data.toList ++ 44 :: t.data.toList) ++ [41]) := by
  unfold ptT
  simp [ByteArray.data_append]
theorem preT_cons (l : List UInt8) : preB 40 (40 :: l) = true ∧ preT 40 (40 :: l) = l := by unfold preT preB; simp
theorem sufT_snoc (l : List UInt8) : sufB 41 (l ++ [41]) = true ∧ sufT 41 (l ++ [41]) = l := by unfold sufT sufB; simp
theorem ptT_parts {s t : ByteArray} (h : ∀ b ∈ s.data.toList, b ≠ 44) : preB 40 (ptT s t).data.toList = true ∧ sufB 41 (preT 40 (ptT s t).data.toList) = true ∧ hasCom (inT (ptT s t).data.toList) = true ∧ comL (inT (ptT s t).data.toList) = s.data.toList ∧ comR (inT (ptT s t).data.toList) = t.data.toList := by
  unfold inT
  rw [ptT_data, (preT_cons _).2, (sufT_snoc _).2]
  exact ⟨(preT_cons _).1, (sufT_snoc _).1, hasCom_app _ _, comL_app h, comR_app h⟩
/-- ref01.ReadQ by the kind of its text. -/
theorem readQU {w : World} {s : ByteArray} (hsz : s.size ≤ 4000) : ∃ q, Calls Tryz.prog 19 #[.string s] w (ReadQRet w q (rKind s.data.toList)) ∧ (rKind s.data.toList = 0 → q = rVal s.data.toList) := by
  have hlen := str_len s
  have hc1 := cutL_len s.data.toList
  have hc2 := cutR_len s.data.toList
  have hc3 := iDig_len (cutL s.data.toList)
  have pk : ∀ l : List UInt8, l.length ≤ 4000 → pKind l = 0 ∨ pKind l = 1 := fun l h => by
    rcases pKind_cases l with h1 | h1 | h1
    · exact .inr h1
    · have := pk2 h1; omega
    · exact .inl h1
  have he := pk (iDig (cutL s.data.toList)) (by omega)
  have hf := pk (cutR s.data.toList) (by omega)
  cases hh : hasSlash s.data.toList with
  | false =>
    have HCL : cutL s.data.toList = s.data.toList := by unfold cutL; rw [hh]; rfl
    rw [HCL] at he
    have hk : rKind s.data.toList = pKind (iDig s.data.toList) := by
      unfold rKind rKindF; rw [hh, HCL]; rcases he with e | e <;> rw [e] <;> simp
    rw [hk]
    refine ⟨_, readQ_n hsz hh rfl (by rcases he with e | e <;> omega) rfl rfl, fun h => ?_⟩
    rw [if_pos h, if_pos h]
    unfold rVal; rw [hh, HCL]; rfl
  | true =>
    have hk : rKind s.data.toList = if pKind (iDig (cutL s.data.toList)) = 1 ∨ pKind (cutR s.data.toList) = 1 then 1 else if (if pKind (cutR s.data.toList) = 0 then bval (cutR s.data.toList) else 0) = 0 then 3 else 0 := by
      unfold rKind rKindF; rw [hh]
      rcases he with e | e <;> rcases hf with f | f <;> rw [e, f] <;> simp
    refine ⟨_, readQ_s hsz hh rfl (by rcases he with e | e <;> omega) rfl rfl (by rcases hf with e | e <;> omega) rfl rfl hk, fun h => ?_⟩
    rw [h] at hk
    unfold rVal; rw [hh]
    rcases he with e | e <;> rcases hf with f | f <;> rw [e, f] at hk <;> simp at hk
    rw [e, f]
    simp [hk, iVal]
end Go.Proofs.YtdlnoeegboapkaaGreatDoor

/- The law's own search for the comma; when point.Parse refuses a text. printed by a small program (mkpt4.py). -/
namespace Go.Proofs.YtdlnoeegboapkaaGreatDoor
open Go.RowKit
set_option maxRecDepth 100000
set_option maxHeartbeats 4000000
set_option linter.unusedVariables false
set_option linter.unusedSimpArgs false

/-- What the law's loop holds after j letters. -/
def cmJ (l : List UInt8) (j : Nat) : Int := if comAt l < j then (comAt l : Int) else -1
theorem cmJ_zero (l : List UInt8) : cmJ l 0 = -1 := if_neg (by omega)
theorem byteAt_get {s : ByteArray} {j : Nat} (h : j < s.data.toList.length) : byteAt s j = s.data.toList[j] := by
  unfold byteAt; rw [List.getD_eq_getElem?_getD, List.getElem?_eq_getElem h]; rfl
theorem comAt_le {l : List UInt8} {j : Nat} (h : j < l.length) (e : l[j] = 44) : comAt l ≤ j := by
  rcases Nat.lt_or_ge j (comAt l) with hj | hj
  · have := List.not_of_lt_findIdx hj
    rw [e] at this; exact absurd this (by decide)
  · exact hj
theorem comAt_at {l : List UInt8} (h : comAt l < l.length) : l[comAt l] = 44 := by
  have : (l[comAt l] == 44) = true := List.findIdx_getElem (w := h)
  simpa using this
theorem cmJ_hit {s : ByteArray} {j : Nat} (h : j < s.size) (hb : byteAt s j = 44) (hc : cmJ s.data.toList j < 0) : cmJ s.data.toList (j + 1) = j := by
  have hl : j < s.data.toList.length := by rw [← str_len]; exact h
  rw [byteAt_get hl] at hb
  have h1 := comAt_le hl hb
  unfold cmJ at hc ⊢
  split at hc
  · omega
  · rw [if_pos (by omega)]; omega
theorem cmJ_miss {s : ByteArray} {j : Nat} (h : j < s.size) (hb : byteAt s j ≠ 44 ∨ 0 ≤ cmJ s.data.toList j) : cmJ s.data.toList (j + 1) = cmJ s.data.toList j := by
  have hl : j < s.data.toList.length := by rw [← str_len]; exact h
  rw [byteAt_get hl] at hb
  unfold cmJ at hb ⊢
  by_cases h1 : comAt s.data.toList < j
  · rw [if_pos h1, if_pos (by omega)]
  · rw [if_neg h1] at hb ⊢
    rcases hb with hb | hb
    · refine if_neg fun h2 => hb ?_
      obtain h3 : comAt s.data.toList = j := by omega
      have := comAt_at (l := s.data.toList) (by omega)
      simpa [h3] using this
    · omega
theorem pre_split {l : List UInt8} (h : preB 40 l = true) : l = 40 :: preT 40 l := by
  have h2 := h
  unfold preB at h2
  cases l with
  | nil => simp at h2
  | cons b m =>
    have : b = 40 := by simpa using h2
    subst this
    rw [(preT_cons m).2]
theorem suf_split {l : List UInt8} (h : sufB 41 l = true) : l = sufT 41 l ++ [41] := by
  have h2 := h
  unfold sufB at h2
  rw [show sufT 41 l = l.dropLast from if_pos h]
  have hne : l ≠ [] := fun e => by rw [e] at h2; simp at h2
  have : l.getLast hne = 41 := by rw [List.getLast?_eq_some_getLast hne] at h2; simpa using h2
  conv => lhs; rw [← List.dropLast_concat_getLast hne, this]
theorem comAt_in {m r : List UInt8} (h : hasCom m = true) : comAt (40 :: (m ++ r)) = comAt m + 1 := by
  have hlt := com_lt h
  unfold comAt at hlt ⊢
  rw [List.findIdx_cons, show ((40 : UInt8) == 44) = false from rfl, cond_false, List.findIdx_append, if_pos hlt]
/-- The three tests together. -/
def okF (l : List UInt8) : Bool := preB 40 l && (sufB 41 (preT 40 l) && hasCom (inT l))
theorem okF_split {l : List UInt8} (h : okF l = true) : ∃ m, l = 40 :: (m ++ [41]) ∧ inT l = m ∧ hasCom m = true ∧ preB 40 l = true ∧ sufB 41 (preT 40 l) = true := by
  unfold okF at h
  rw [Bool.and_eq_true, Bool.and_eq_true] at h
  obtain ⟨h1, h2, h3⟩ := h
  refine ⟨inT l, ?_, rfl, h3, h1, h2⟩
  conv => lhs; rw [pre_split h1, suf_split h2]
  rfl
theorem okF_mk {m : List UInt8} (h : hasCom m = true) : okF (40 :: (m ++ [41])) = true ∧ inT (40 :: (m ++ [41])) = m := by
  have e : inT (40 :: (m ++ [41])) = m := by unfold inT; rw [(preT_cons _).2, (sufT_snoc _).2]
  refine ⟨?_, e⟩
  unfold okF
  rw [(preT_cons _).1, (preT_cons _).2, (sufT_snoc _).1, e, h]; rfl
/-- The law's tests are the three tests. -/
theorem okF_iff {s : ByteArray} : okF s.data.toList = true ↔ 3 ≤ s.size ∧ byteAt s 0 = 40 ∧ byteAt s (s.size - 1) = 41 ∧ 1 ≤ cmJ s.data.toList s.size := by
  have hl := str_len s
  constructor
  · intro h
    obtain ⟨m, e, _, hm, _, _⟩ := okF_split h
    have h1 := comAt_in (r := [41]) hm
    have h2 := com_lt hm
    rw [← e] at h1
    have h3 : s.data.toList.length = m.length + 2 := by rw [e]; simp
    refine ⟨by omega, ?_, ?_, ?_⟩
    · rw [byteAt_get (by omega)]; simp [e]
    · rw [byteAt_get (by omega)]
      have : s.size - 1 = m.length + 1 := by omega
      simp [e, this]
    · unfold cmJ; rw [if_pos (by omega)]; omega
  · rintro ⟨h1, h2, h3, h4⟩
    rw [byteAt_get (by omega)] at h2 h3
    have h2' : s.data.toList[0]? = some 40 := by rw [List.getElem?_eq_getElem (by omega), h2]
    have h3' : s.data.toList[s.size - 1]? = some 41 := by rw [List.getElem?_eq_getElem (by omega), h3]
    clear h2 h3
    generalize hL : s.data.toList = L at *
    obtain ⟨b, k, rfl⟩ : ∃ b k, L = b :: k := by cases L with
      | nil => change s.size = 0 at hl; omega
      | cons b k => exact ⟨b, k, rfl⟩
    have hb : b = 40 := by simpa using h2'
    subst hb
    have hk : k ≠ [] := fun e => by rw [e] at hl; change s.size = 1 at hl; omega
    have hlast : k.getLast hk = 41 := by
      have : s.size - 1 = (k.length - 1) + 1 := by have := List.length_pos_iff.2 hk; rw [List.length_cons] at hl; omega
      rw [this, List.getElem?_cons_succ, ← List.getLast?_eq_getElem?, List.getLast?_eq_some_getLast hk] at h3'
      simpa using h3'
    obtain ⟨m, rfl⟩ : ∃ m, k = m ++ [41] := ⟨k.dropLast, by conv => lhs; rw [← List.dropLast_concat_getLast hk, hlast]⟩
    refine (okF_mk ?_).1
    unfold cmJ at h4
    split at h4
    · rename_i h5
      have h6 := comAt_at (l := 40 :: (m ++ [41])) (by rw [← hl]; exact h5)
      have hm : (44 : UInt8) ∈ 40 :: (m ++ [41]) := by rw [← h6]; exact List.getElem_mem _
      unfold hasCom
      simpa using hm
    · omega
/-- The two parts, as the law cuts them. -/
theorem okF_parts {s : ByteArray} (h : okF s.data.toList = true) {c : Nat} (hc : cmJ s.data.toList s.size = (c : Int)) : 1 ≤ c ∧ c + 2 ≤ s.size ∧ (s.extract 1 c).data.toList = comL (inT s.data.toList) ∧ (s.extract (c + 1) (s.size - 1)).data.toList = comR (inT s.data.toList) := by
  have hl := str_len s
  obtain ⟨m, e, em, hm, _, _⟩ := okF_split h
  have h1 := comAt_in (r := [41]) hm
  have h2 := com_lt hm
  rw [← e] at h1
  have h3 : s.data.toList.length = m.length + 2 := by rw [e]; simp
  unfold cmJ at hc
  rw [if_pos (by omega), h1] at hc
  have hc' : c = comAt m + 1 := by omega
  subst hc'
  refine ⟨by omega, by omega, ?_, ?_⟩
  · rw [Lib.extract_data, em, comL, if_pos hm, e]
    simp [List.take_append_of_le_length (Nat.le_of_lt h2)]
  · rw [Lib.extract_data, em, comR, if_pos hm, e, show s.size - 1 = m.length + 1 by omega]
    simp [List.drop_append_of_le_length (show comAt m + 1 ≤ m.length by omega)]
theorem pp_bad {w w1 w2 w3 : World} {s : ByteArray} {a0 a1 a2 : Addr} [h0 : Snt w 0 a0 w1] [h1 : Snt w 2 a1 w2] [h2 : Snt w 1 a2 w3] (hne : a1 ≠ a0) (hne2 : a2 ≠ a0) (hsz : s.size ≤ 1000000) (h : okF s.data.toList = false) : Calls Tryz.prog 13 #[.string s] w (ErrRet w (.agg #[.bool false, .slice none 0 0, .slice none 0 0, .bool false, .slice none 0 0, .slice none 0 0]) a0) := by
  unfold okF at h
  cases hb1 : preB 40 s.data.toList with
  | false => exact pp_f hne hne2 hsz hb1 rfl rfl
  | true =>
    cases hb2 : sufB 41 (preT 40 s.data.toList) with
    | false => exact pp_tf hne hne2 hsz hb1 hb2 rfl
    | true =>
      rw [hb1, hb2] at h
      exact pp_ttf hne hne2 hsz hb1 hb2 (by simpa using h)
end Go.Proofs.YtdlnoeegboapkaaGreatDoor
