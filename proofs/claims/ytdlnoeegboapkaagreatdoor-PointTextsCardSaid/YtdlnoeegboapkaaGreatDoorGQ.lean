/-
  Texts of this claim, joined: RParse.
-/
import Derived.Test.YtdlnoeegboapkaaGreatDoorGP
/- Contract of rational.Parse. printed by a small program (mkrtxt.py). -/
namespace Go.Proofs.YtdlnoeegboapkaaGreatDoor
open Go.RowKit
set_option maxRecDepth 100000
set_option maxHeartbeats 40000000
set_option synthInstance.maxSize 100000
set_option synthInstance.maxHeartbeats 1000000

set_option linter.unusedVariables false

theorem iparse1 {w w1 w2 : World} {s : ByteArray} {a0 a1 : Addr} (h0 : Snt w 0 a0 w1) (h1 : Snt w 2 a1 w2) (hsz : s.size ≤ 1000000000) (hk : pKind (iDig s.data.toList) = 1) :
    Calls Tryz.prog 131 #[.string s] w (ErrRet w (.agg #[.bool false, .slice none 0 0]) a0) := (iparse_any s hsz).mono fun e w' h => by
  rcases h with h | h | h
  · exact h.2
  · rw [hk] at h; exact absurd h.1 (by decide)
  · rw [hk] at h; exact absurd h.1 (by decide)
theorem iparse2 {w w1 w2 : World} {s : ByteArray} {a0 a1 : Addr} (h0 : Snt w 0 a0 w1) (h1 : Snt w 2 a1 w2) (hsz : s.size ≤ 1000000000) (hk : pKind (iDig s.data.toList) = 2) :
    Calls Tryz.prog 131 #[.string s] w (ErrRet w (.agg #[.bool false, .slice none 0 0]) a1) := (iparse_any s hsz).mono fun e w' h => by
  rcases h with h | h | h
  · rw [hk] at h; exact absurd h.1 (by decide)
  · exact h.2
  · rw [hk] at h; exact absurd h.1 (by decide)
theorem iparse0 {w w1 w2 : World} {s : ByteArray} {a0 a1 : Addr} (h0 : Snt w 0 a0 w1) (h1 : Snt w 2 a1 w2) (hsz : s.size ≤ 1000000000) {z : Int} (hk : pKind (iDig s.data.toList) = 0 ∧ iVal s.data.toList = z) :
    Calls Tryz.prog 131 #[.string s] w (IntRet w z 4097) := (iparse_any s hsz).mono fun e w' h => by
  obtain ⟨hk, rfl⟩ := hk
  rcases h with h | h | h
  · rw [hk] at h; exact absurd h.1 (by decide)
  · rw [hk] at h; exact absurd h.1 (by decide)
  · exact h.2
theorem cutL_len (l : List UInt8) : (cutL l).length ≤ l.length := by
  unfold cutL
  split
  · exact List.length_take_le' ..
  · exact Nat.le_refl _
theorem cutR_len (l : List UInt8) : (cutR l).length ≤ l.length := by
  unfold cutR
  split
  · rw [List.length_drop]; omega
  · simp
theorem Calls.kCut {P : Program} {f : FuncId} {args : Array Value} {w : World} {l : List UInt8} {K : Ending → World → Prop} (h : Calls P f args w (CutRet w l)) {p q : List UInt8} {b : Bool} (hh : hasSlash l = b ∧ cutL l = p ∧ cutR l = q)
    (hK : ∀ w' [Kp1 w w'] x y, Hid (x.data.toList = p) → Hid (y.data.toList = q) → K (.returned (.tuple #[.string x, .string y, .bool b])) w') : Calls P f args w K := by
  refine h.mono ?_
  rintro e w' ⟨x, y, rfl, hx, hy, hb⟩
  rw [hh.1]
  exact @hK w' ⟨hb⟩ x y (hx.trans hh.2.1) (hy.trans hh.2.2)
/-- What Parse answers: 1: a syntax error, 2: too many digits, 3: the denominator 0, 0: a number; and which. -/
def rKindF (e f : Nat) (h : Bool) (d : Nat) : Nat := if e = 1 ∨ f = 1 then 1 else if e = 2 ∨ f = 2 then 2 else if h = true ∧ d = 0 then 3 else 0
def rKind (l : List UInt8) : Nat := rKindF (pKind (iDig (cutL l))) (if hasSlash l = true then pKind (cutR l) else 0) (hasSlash l) (bval (cutR l))
def rVal (l : List UInt8) : Rat := mkRat (iVal (cutL l)) (if hasSlash l = true then bval (cutR l) else 1)
def RatRet (w : World) (z : Rat) (k : Nat) (e : Ending) (w' : World) : Prop :=
  ∃ g a l c aa ll cc, e = .returned (.tuple #[.agg #[.bool g, .slice a l c, .slice aa ll cc], .nilIface]) ∧ CA w' (.agg #[.bool g, .slice a l c, .slice aa ll cc]) z k ∧ Below w.heap.size w w'
theorem Calls.kRat {P : Program} {f : FuncId} {args : Array Value} {w : World} {z : Rat} {k : Nat} {K : Ending → World → Prop} (h : Calls P f args w (RatRet w z k))
    (hK : ∀ w' [Kp1 w w'] g a l c aa ll cc [CA w' (.agg #[.bool g, .slice a l c, .slice aa ll cc]) z k], K (.returned (.tuple #[.agg #[.bool g, .slice a l c, .slice aa ll cc], .nilIface])) w') : Calls P f args w K := by
  refine h.mono ?_
  rintro e w' ⟨g, a, l, c, aa, ll, cc, rfl, hx, hb⟩
  exact @hK w' ⟨hb⟩ g a l c aa ll cc hx
theorem rparse_1n {w w1 w2 w3 : World} (s : ByteArray) {a0 a1 a2 : Addr} [h0 : Snt w 0 a0 w1] [h1 : Snt w 2 a1 w2] [h2 : Snt w 1 a2 w3] (hne : a1 ≠ a0) (hsz : s.size ≤ 1000000) (hh : hasSlash s.data.toList = false) (he : pKind (iDig (cutL s.data.toList)) = 1) :
    Calls Tryz.prog 67 #[.string s] w (ErrRet w (.agg #[.bool false, .slice none 0 0, .slice none 0 0]) a0) := by
  have i0 := h0.here
  have i1 := h1.here
  have i2 := h2.here
  clear h0 h1 h2
  have hlen := str_len s
  have hl1 := cutL_len s.data.toList
  have hl2 := cutR_len s.data.toList
  rw [← hlen] at hl1 hl2
  obtain ⟨pl, hpl⟩ : ∃ pl, cutL s.data.toList = pl := ⟨_, rfl⟩
  obtain ⟨ql, hql⟩ : ∃ ql, cutR s.data.toList = ql := ⟨_, rfl⟩
  have HC : Hid (hasSlash s.data.toList = false ∧ cutL s.data.toList = pl ∧ cutR s.data.toList = ql) := ⟨hh, hpl, hql⟩
  rw [hpl] at he hl1
  rw [hql] at hl2
  have HE := Lib.hid he
  clear hh he hlen hpl hql
  go_enter Tryz.func67, Tryz.ntmps67
  go_wp2_with fail
  with_reducible refine Calls.kCut (cutC s _ (by omega)) HC.out ?_
  intro W1 _ x y hx hy
  have hxs : x.size ≤ 1000000000 := by rw [str_len, hx.out]; omega
  have hys : y.size ≤ 1000000000 := by rw [str_len, hy.out]; omega
  have HE2 : Hid (pKind (iDig x.data.toList) = 1) := by show _; rw [hx.out]; exact HE.out
  go_wp2_with (first
    | (go_at_call 131; (with_reducible refine Calls.kErr (iparse1 inferInstance inferInstance hxs HE2.out) ?_); intros)
    | (go_at_call 18; (with_reducible refine Calls.cS (isNilC _) ?_))
    | (go_at_call 18; (with_reducible refine Calls.cS isSameC ?_))
    | (go_at_call 18; (with_reducible refine Calls.cS (isOtherC (g1 := 2) (g2 := 0) inferInstance inferInstance hne) ?_))
    | (go_at_call 133; (with_reducible refine Calls.cS (bitsC (by omega)) ?_); intros)
    | (go_at_call 134; (with_reducible refine Calls.cF (ofC (by omega)) ?_); intros)
    | (go_at_call 92; (with_reducible refine Calls.cA (rApiC (by omega)) ?_); intros))
  refine region_cls (by kernel_rfl) [w.heap.size] (fun hHeld => ?_)
  refine wpAnyH_take (i := 0) (v := ?z116) (by simp; rfl) (by kernel_rfl) (by kernel_rfl) (by kernel_rfl) (by exact fun _ _ _ h => h) (Or.inl ⟨by rfl, ?yz116⟩) hHeld ?_
  case yz116 => (intro wx hSw; have hSx := Ex1.mk hSw; go_simp; (try with_reducible rfl))
  try simp only [Act.put, List.setIfInBounds_toArray, List.set_cons_zero, List.set_cons_succ]
  refine wpAnyH_take (i := 1) (v := ?z117) (by simp; rfl) (by kernel_rfl) (by kernel_rfl) (by kernel_rfl) (by exact fun _ _ _ h => h) (Or.inl ⟨by rfl, ?yz117⟩) hHeld ?_
  case yz117 => (intro wx hSw; have hSx := Ex1.mk hSw; go_simp; (try with_reducible rfl))
  try simp only [Act.put, List.setIfInBounds_toArray, List.set_cons_zero, List.set_cons_succ]
  refine wpAnyH_take (i := 2) (v := ?z118) (by simp; rfl) (by kernel_rfl) (by kernel_rfl) (by kernel_rfl) (by exact fun _ _ _ h => h) (Or.inl ⟨by rfl, ?yz118⟩) hHeld ?_
  case yz118 => (intro wx hSw; have hSx := Ex1.mk hSw; go_simp; (try with_reducible rfl))
  try simp only [Act.put, List.setIfInBounds_toArray, List.set_cons_zero, List.set_cons_succ]
  refine wpAnyH_ready (rs := [3, 5]) (by kernel_rfl) (by simp) ?_
  refine AllReadyH.cons (by simp; rfl) (fun K hK => ?_) (AllReadyH.cons (by simp; rfl) (fun K hK => ?_) AllReadyH.nil)
  go_simp
  refine hK.out _ _ inferInstance ?_
  clear hHeld hK K
  intro hHeld
  try simp only [Act.put, List.setIfInBounds_toArray, List.set_cons_zero, List.set_cons_succ]
  refine wpAnyH_take (i := 4) (v := ?z119) (by simp; rfl) (by kernel_rfl) (by kernel_rfl) (by kernel_rfl) (by exact fun _ _ _ h => h) (Or.inl ⟨by rfl, ?yz119⟩) hHeld ?_
  case yz119 => (intro wx hSw; have hSx := Ex1.mk hSw; go_simp; (try with_reducible rfl))
  try simp only [Act.put, List.setIfInBounds_toArray, List.set_cons_zero, List.set_cons_succ]
  refine wpAnyH_ready (rs := [5]) (by kernel_rfl) (by simp) ?_
  refine AllReadyH.cons (by simp; rfl) (fun K hK => ?_) AllReadyH.nil
  go_simp
  refine hK.out _ _ inferInstance ?_
  clear hHeld hK K
  intro hHeld
  try simp only [Act.put, List.setIfInBounds_toArray, List.set_cons_zero, List.set_cons_succ]
  refine wpAnyH_take (i := 6) (v := ?z120) (by simp; rfl) (by kernel_rfl) (by kernel_rfl) (by kernel_rfl) (by exact fun _ _ _ h => h) (Or.inl ⟨by rfl, ?yz120⟩) hHeld ?_
  case yz120 => (intro wx hSw; have hSx := Ex1.mk hSw; go_simp; (try with_reducible rfl))
  try simp only [Act.put, List.setIfInBounds_toArray, List.set_cons_zero, List.set_cons_succ]
  refine wpAnyH_done (by kernel_rfl) ?_ _
  clear hHeld
  go_wp2
  refine ret_bt rfl Tryz.underlying29 rfl (by kernel_rfl) rfl rfl rfl ?_
  exact ⟨_, _, rfl, inferInstance, inferInstance, (inferInstance : Kp w _).out⟩
  go_simp
  refine hK.out _ _ inferInstance ?_
  clear hHeld hK K
  intro hHeld
  try simp only [Act.put, List.setIfInBounds_toArray, List.set_cons_zero, List.set_cons_succ]
  refine wpAnyH_ready (rs := [3]) (by kernel_rfl) (by simp) ?_
  refine AllReadyH.cons (by simp; rfl) (fun K hK => ?_) AllReadyH.nil
  go_simp
  refine hK.out _ _ inferInstance ?_
  clear hHeld hK K
  intro hHeld
  try simp only [Act.put, List.setIfInBounds_toArray, List.set_cons_zero, List.set_cons_succ]
  refine wpAnyH_take (i := 4) (v := ?z121) (by simp; rfl) (by kernel_rfl) (by kernel_rfl) (by kernel_rfl) (by exact fun _ _ _ h => h) (Or.inl ⟨by rfl, ?yz121⟩) hHeld ?_
  case yz121 => (intro wx hSw; have hSx := Ex1.mk hSw; go_simp; (try with_reducible rfl))
  try simp only [Act.put, List.setIfInBounds_toArray, List.set_cons_zero, List.set_cons_succ]
  refine wpAnyH_take (i := 6) (v := ?z122) (by simp; rfl) (by kernel_rfl) (by kernel_rfl) (by kernel_rfl) (by exact fun _ _ _ h => h) (Or.inl ⟨by rfl, ?yz122⟩) hHeld ?_
  case yz122 => (intro wx hSw; have hSx := Ex1.mk hSw; go_simp; (try with_reducible rfl))
  try simp only [Act.put, List.setIfInBounds_toArray, List.set_cons_zero, List.set_cons_succ]
  refine wpAnyH_done (by kernel_rfl) ?_ _
  clear hHeld
  go_wp2
  refine ret_bt rfl Tryz.underlying29 rfl (by kernel_rfl) rfl rfl rfl ?_
  exact ⟨_, _, rfl, inferInstance, inferInstance, (inferInstance : Kp w _).out⟩

theorem rparse_2n {w w1 w2 w3 : World} (s : ByteArray) {a0 a1 a2 : Addr} [h0 : Snt w 0 a0 w1] [h1 : Snt w 2 a1 w2] [h2 : Snt w 1 a2 w3] (hne : a1 ≠ a0) (hsz : s.size ≤ 1000000) (hh : hasSlash s.data.toList = false) (he : pKind (iDig (cutL s.data.toList)) = 2) :
    Calls Tryz.prog 67 #[.string s] w (ErrRet w (.agg #[.bool false, .slice none 0 0, .slice none 0 0]) a1) := by
  have i0 := h0.here
  have i1 := h1.here
  have i2 := h2.here
  clear h0 h1 h2
  have hlen := str_len s
  have hl1 := cutL_len s.data.toList
  have hl2 := cutR_len s.data.toList
  rw [← hlen] at hl1 hl2
  obtain ⟨pl, hpl⟩ : ∃ pl, cutL s.data.toList = pl := ⟨_, rfl⟩
  obtain ⟨ql, hql⟩ : ∃ ql, cutR s.data.toList = ql := ⟨_, rfl⟩
  have HC : Hid (hasSlash s.data.toList = false ∧ cutL s.data.toList = pl ∧ cutR s.data.toList = ql) := ⟨hh, hpl, hql⟩
  rw [hpl] at he hl1
  rw [hql] at hl2
  have HE := Lib.hid he
  clear hh he hlen hpl hql
  go_enter Tryz.func67, Tryz.ntmps67
  go_wp2_with fail
  with_reducible refine Calls.kCut (cutC s _ (by omega)) HC.out ?_
  intro W1 _ x y hx hy
  have hxs : x.size ≤ 1000000000 := by rw [str_len, hx.out]; omega
  have hys : y.size ≤ 1000000000 := by rw [str_len, hy.out]; omega
  have HE2 : Hid (pKind (iDig x.data.toList) = 2) := by show _; rw [hx.out]; exact HE.out
  go_wp2_with (first
    | (go_at_call 131; (with_reducible refine Calls.kErr (iparse2 inferInstance inferInstance hxs HE2.out) ?_); intros)
    | (go_at_call 18; (with_reducible refine Calls.cS (isNilC _) ?_))
    | (go_at_call 18; (with_reducible refine Calls.cS isSameC ?_))
    | (go_at_call 18; (with_reducible refine Calls.cS (isOtherC (g1 := 2) (g2 := 0) inferInstance inferInstance hne) ?_))
    | (go_at_call 133; (with_reducible refine Calls.cS (bitsC (by omega)) ?_); intros)
    | (go_at_call 134; (with_reducible refine Calls.cF (ofC (by omega)) ?_); intros)
    | (go_at_call 92; (with_reducible refine Calls.cA (rApiC (by omega)) ?_); intros))
  refine region_cls (by kernel_rfl) [w.heap.size] (fun hHeld => ?_)
  refine wpAnyH_take (i := 0) (v := ?z123) (by simp; rfl) (by kernel_rfl) (by kernel_rfl) (by kernel_rfl) (by exact fun _ _ _ h => h) (Or.inl ⟨by rfl, ?yz123⟩) hHeld ?_
  case yz123 => (intro wx hSw; have hSx := Ex1.mk hSw; go_simp; (try with_reducible rfl))
  try simp only [Act.put, List.setIfInBounds_toArray, List.set_cons_zero, List.set_cons_succ]
  refine wpAnyH_take (i := 1) (v := ?z124) (by simp; rfl) (by kernel_rfl) (by kernel_rfl) (by kernel_rfl) (by exact fun _ _ _ h => h) (Or.inl ⟨by rfl, ?yz124⟩) hHeld ?_
  case yz124 => (intro wx hSw; have hSx := Ex1.mk hSw; go_simp; (try with_reducible rfl))
  try simp only [Act.put, List.setIfInBounds_toArray, List.set_cons_zero, List.set_cons_succ]
  refine wpAnyH_take (i := 2) (v := ?z125) (by simp; rfl) (by kernel_rfl) (by kernel_rfl) (by kernel_rfl) (by exact fun _ _ _ h => h) (Or.inl ⟨by rfl, ?yz125⟩) hHeld ?_
  case yz125 => (intro wx hSw; have hSx := Ex1.mk hSw; go_simp; (try with_reducible rfl))
  try simp only [Act.put, List.setIfInBounds_toArray, List.set_cons_zero, List.set_cons_succ]
  refine wpAnyH_ready (rs := [3, 5]) (by kernel_rfl) (by simp) ?_
  refine AllReadyH.cons (by simp; rfl) (fun K hK => ?_) (AllReadyH.cons (by simp; rfl) (fun K hK => ?_) AllReadyH.nil)
  go_simp
  refine hK.out _ _ inferInstance ?_
  clear hHeld hK K
  intro hHeld
  try simp only [Act.put, List.setIfInBounds_toArray, List.set_cons_zero, List.set_cons_succ]
  refine wpAnyH_take (i := 4) (v := ?z126) (by simp; rfl) (by kernel_rfl) (by kernel_rfl) (by kernel_rfl) (by exact fun _ _ _ h => h) (Or.inl ⟨by rfl, ?yz126⟩) hHeld ?_
  case yz126 => (intro wx hSw; have hSx := Ex1.mk hSw; go_simp; (try with_reducible rfl))
  try simp only [Act.put, List.setIfInBounds_toArray, List.set_cons_zero, List.set_cons_succ]
  refine wpAnyH_ready (rs := [5]) (by kernel_rfl) (by simp) ?_
  refine AllReadyH.cons (by simp; rfl) (fun K hK => ?_) AllReadyH.nil
  go_simp
  refine hK.out _ _ inferInstance ?_
  clear hHeld hK K
  intro hHeld
  try simp only [Act.put, List.setIfInBounds_toArray, List.set_cons_zero, List.set_cons_succ]
  refine wpAnyH_take (i := 6) (v := ?z127) (by simp; rfl) (by kernel_rfl) (by kernel_rfl) (by kernel_rfl) (by exact fun _ _ _ h => h) (Or.inl ⟨by rfl, ?yz127⟩) hHeld ?_
  case yz127 => (intro wx hSw; have hSx := Ex1.mk hSw; go_simp; (try with_reducible rfl))
  try simp only [Act.put, List.setIfInBounds_toArray, List.set_cons_zero, List.set_cons_succ]
  refine wpAnyH_done (by kernel_rfl) ?_ _
  clear hHeld
  go_wp2
  refine ret_bt rfl Tryz.underlying29 rfl (by kernel_rfl) rfl rfl rfl ?_
  exact ⟨_, _, rfl, inferInstance, inferInstance, (inferInstance : Kp w _).out⟩
  go_simp
  refine hK.out _ _ inferInstance ?_
  clear hHeld hK K
  intro hHeld
  try simp only [Act.put, List.setIfInBounds_toArray, List.set_cons_zero, List.set_cons_succ]
  refine wpAnyH_ready (rs := [3]) (by kernel_rfl) (by simp) ?_
  refine AllReadyH.cons (by simp; rfl) (fun K hK => ?_) AllReadyH.nil
  go_simp
  refine hK.out _ _ inferInstance ?_
  clear hHeld hK K
  intro hHeld
  try simp only [Act.put, List.setIfInBounds_toArray, List.set_cons_zero, List.set_cons_succ]
  refine wpAnyH_take (i := 4) (v := ?z128) (by simp; rfl) (by kernel_rfl) (by kernel_rfl) (by kernel_rfl) (by exact fun _ _ _ h => h) (Or.inl ⟨by rfl, ?yz128⟩) hHeld ?_
  case yz128 => (intro wx hSw; have hSx := Ex1.mk hSw; go_simp; (try with_reducible rfl))
  try simp only [Act.put, List.setIfInBounds_toArray, List.set_cons_zero, List.set_cons_succ]
  refine wpAnyH_take (i := 6) (v := ?z129) (by simp; rfl) (by kernel_rfl) (by kernel_rfl) (by kernel_rfl) (by exact fun _ _ _ h => h) (Or.inl ⟨by rfl, ?yz129⟩) hHeld ?_
  case yz129 => (intro wx hSw; have hSx := Ex1.mk hSw; go_simp; (try with_reducible rfl))
  try simp only [Act.put, List.setIfInBounds_toArray, List.set_cons_zero, List.set_cons_succ]
  refine wpAnyH_done (by kernel_rfl) ?_ _
  clear hHeld
  go_wp2
  refine ret_bt rfl Tryz.underlying29 rfl (by kernel_rfl) rfl rfl rfl ?_
  exact ⟨_, _, rfl, inferInstance, inferInstance, (inferInstance : Kp w _).out⟩

theorem rparse_0n {w w1 w2 w3 : World} (s : ByteArray) {a0 a1 a2 : Addr} [h0 : Snt w 0 a0 w1] [h1 : Snt w 2 a1 w2] [h2 : Snt w 1 a2 w3] (hne : a1 ≠ a0) (hsz : s.size ≤ 1000000) {zn : Int} (hh : hasSlash s.data.toList = false) (he : pKind (iDig (cutL s.data.toList)) = 0 ∧ iVal (cutL s.data.toList) = zn) :
    Calls Tryz.prog 67 #[.string s] w (RatRet w (mkRat zn 1) 5000) := by
  have i0 := h0.here
  have i1 := h1.here
  have i2 := h2.here
  clear h0 h1 h2
  have hlen := str_len s
  have hl1 := cutL_len s.data.toList
  have hl2 := cutR_len s.data.toList
  rw [← hlen] at hl1 hl2
  obtain ⟨pl, hpl⟩ : ∃ pl, cutL s.data.toList = pl := ⟨_, rfl⟩
  obtain ⟨ql, hql⟩ : ∃ ql, cutR s.data.toList = ql := ⟨_, rfl⟩
  have HC : Hid (hasSlash s.data.toList = false ∧ cutL s.data.toList = pl ∧ cutR s.data.toList = ql) := ⟨hh, hpl, hql⟩
  rw [hpl] at he hl1
  rw [hql] at hl2
  have HE := Lib.hid he
  clear hh he hlen hpl hql
  go_enter Tryz.func67, Tryz.ntmps67
  go_wp2_with fail
  with_reducible refine Calls.kCut (cutC s _ (by omega)) HC.out ?_
  intro W1 _ x y hx hy
  have hxs : x.size ≤ 1000000000 := by rw [str_len, hx.out]; omega
  have hys : y.size ≤ 1000000000 := by rw [str_len, hy.out]; omega
  have HE2 : Hid (pKind (iDig x.data.toList) = 0 ∧ iVal x.data.toList = zn) := by show _; rw [hx.out]; exact HE.out
  have hbt : (((nbits 1 : Nat) : Int) == 0) = false := by decide +kernel
  go_wp2_with (first
    | (go_at_call 131; (with_reducible refine Calls.kInt (iparse0 inferInstance inferInstance hxs HE2.out) ?_); intros)
    | (go_at_call 18; (with_reducible refine Calls.cS (isNilC _) ?_))
    | (go_at_call 18; (with_reducible refine Calls.cS isSameC ?_))
    | (go_at_call 18; (with_reducible refine Calls.cS (isOtherC (g1 := 2) (g2 := 0) inferInstance inferInstance hne) ?_))
    | (go_at_call 133; (with_reducible refine Calls.cS (bitsC (by omega)) ?_); intros)
    | (go_at_call 134; (with_reducible refine Calls.cF (ofC (by omega)) ?_); intros)
    | (go_at_call 92; (with_reducible refine Calls.cA (rApiC (by omega)) ?_); intros))
  refine ret_bt rfl Tryz.underlying29 rfl (by kernel_rfl) rfl rfl rfl ?_
  exact ⟨_, _, _, _, _, _, _, rfl, CA.cast inferInstance (by rfl) (by omega), (inferInstance : Kp w _).out⟩

theorem rparse_11 {w w1 w2 w3 : World} (s : ByteArray) {a0 a1 a2 : Addr} [h0 : Snt w 0 a0 w1] [h1 : Snt w 2 a1 w2] [h2 : Snt w 1 a2 w3] (hne : a1 ≠ a0) (hsz : s.size ≤ 1000000) (hh : hasSlash s.data.toList = true) (he : pKind (iDig (cutL s.data.toList)) = 1) (hf : pKind (cutR s.data.toList) = 1) :
    Calls Tryz.prog 67 #[.string s] w (ErrRet w (.agg #[.bool false, .slice none 0 0, .slice none 0 0]) a0) := by
  have i0 := h0.here
  have i1 := h1.here
  have i2 := h2.here
  clear h0 h1 h2
  have hlen := str_len s
  have hl1 := cutL_len s.data.toList
  have hl2 := cutR_len s.data.toList
  rw [← hlen] at hl1 hl2
  obtain ⟨pl, hpl⟩ : ∃ pl, cutL s.data.toList = pl := ⟨_, rfl⟩
  obtain ⟨ql, hql⟩ : ∃ ql, cutR s.data.toList = ql := ⟨_, rfl⟩
  have HC : Hid (hasSlash s.data.toList = true ∧ cutL s.data.toList = pl ∧ cutR s.data.toList = ql) := ⟨hh, hpl, hql⟩
  rw [hpl] at he hl1
  rw [hql] at hf hl2
  have HE := Lib.hid he
  have HF := Lib.hid hf
  clear hh he hf hlen hpl hql
  go_enter Tryz.func67, Tryz.ntmps67
  go_wp2_with fail
  with_reducible refine Calls.kCut (cutC s _ (by omega)) HC.out ?_
  intro W1 _ x y hx hy
  have hxs : x.size ≤ 1000000000 := by rw [str_len, hx.out]; omega
  have hys : y.size ≤ 1000000000 := by rw [str_len, hy.out]; omega
  have HE2 : Hid (pKind (iDig x.data.toList) = 1) := by show _; rw [hx.out]; exact HE.out
  have HF2 : Hid (pKind y.data.toList = 1) := by show _; rw [hy.out]; exact HF.out
  go_wp2_with (first
    | (go_at_call 131; (with_reducible refine Calls.kErr (iparse1 inferInstance inferInstance hxs HE2.out) ?_); intros)
    | (go_at_call 132; (with_reducible refine Calls.kErr (parse1 inferInstance inferInstance hys HF2.out) ?_); intros)
    | (go_at_call 18; (with_reducible refine Calls.cS (isNilC _) ?_))
    | (go_at_call 18; (with_reducible refine Calls.cS isSameC ?_))
    | (go_at_call 18; (with_reducible refine Calls.cS (isOtherC (g1 := 2) (g2 := 0) inferInstance inferInstance hne) ?_))
    | (go_at_call 133; (with_reducible refine Calls.cS (bitsC (by omega)) ?_); intros)
    | (go_at_call 134; (with_reducible refine Calls.cF (ofC (by omega)) ?_); intros)
    | (go_at_call 92; (with_reducible refine Calls.cA (rApiC (by omega)) ?_); intros))
  refine region_cls (by kernel_rfl) [w.heap.size] (fun hHeld => ?_)
  refine wpAnyH_take (i := 0) (v := ?z130) (by simp; rfl) (by kernel_rfl) (by kernel_rfl) (by kernel_rfl) (by exact fun _ _ _ h => h) (Or.inl ⟨by rfl, ?yz130⟩) hHeld ?_
  case yz130 => (intro wx hSw; have hSx := Ex1.mk hSw; go_simp; (try with_reducible rfl))
  try simp only [Act.put, List.setIfInBounds_toArray, List.set_cons_zero, List.set_cons_succ]
  refine wpAnyH_take (i := 1) (v := ?z131) (by simp; rfl) (by kernel_rfl) (by kernel_rfl) (by kernel_rfl) (by exact fun _ _ _ h => h) (Or.inl ⟨by rfl, ?yz131⟩) hHeld ?_
  case yz131 => (intro wx hSw; have hSx := Ex1.mk hSw; go_simp; (try with_reducible rfl))
  try simp only [Act.put, List.setIfInBounds_toArray, List.set_cons_zero, List.set_cons_succ]
  refine wpAnyH_take (i := 2) (v := ?z132) (by simp; rfl) (by kernel_rfl) (by kernel_rfl) (by kernel_rfl) (by exact fun _ _ _ h => h) (Or.inl ⟨by rfl, ?yz132⟩) hHeld ?_
  case yz132 => (intro wx hSw; have hSx := Ex1.mk hSw; go_simp; (try with_reducible rfl))
  try simp only [Act.put, List.setIfInBounds_toArray, List.set_cons_zero, List.set_cons_succ]
  refine wpAnyH_ready (rs := [3, 5]) (by kernel_rfl) (by simp) ?_
  refine AllReadyH.cons (by simp; rfl) (fun K hK => ?_) (AllReadyH.cons (by simp; rfl) (fun K hK => ?_) AllReadyH.nil)
  go_simp
  refine hK.out _ _ inferInstance ?_
  clear hHeld hK K
  intro hHeld
  try simp only [Act.put, List.setIfInBounds_toArray, List.set_cons_zero, List.set_cons_succ]
  refine wpAnyH_take (i := 4) (v := ?z133) (by simp; rfl) (by kernel_rfl) (by kernel_rfl) (by kernel_rfl) (by exact fun _ _ _ h => h) (Or.inl ⟨by rfl, ?yz133⟩) hHeld ?_
  case yz133 => (intro wx hSw; have hSx := Ex1.mk hSw; go_simp; (try with_reducible rfl))
  try simp only [Act.put, List.setIfInBounds_toArray, List.set_cons_zero, List.set_cons_succ]
  refine wpAnyH_ready (rs := [5]) (by kernel_rfl) (by simp) ?_
  refine AllReadyH.cons (by simp; rfl) (fun K hK => ?_) AllReadyH.nil
  go_simp
  refine hK.out _ _ inferInstance ?_
  clear hHeld hK K
  intro hHeld
  try simp only [Act.put, List.setIfInBounds_toArray, List.set_cons_zero, List.set_cons_succ]
  refine wpAnyH_take (i := 6) (v := ?z134) (by simp; rfl) (by kernel_rfl) (by kernel_rfl) (by kernel_rfl) (by exact fun _ _ _ h => h) (Or.inl ⟨by rfl, ?yz134⟩) hHeld ?_
  case yz134 => (intro wx hSw; have hSx := Ex1.mk hSw; go_simp; (try with_reducible rfl))
  try simp only [Act.put, List.setIfInBounds_toArray, List.set_cons_zero, List.set_cons_succ]
  refine wpAnyH_done (by kernel_rfl) ?_ _
  clear hHeld
  go_wp2
  refine ret_bt rfl Tryz.underlying29 rfl (by kernel_rfl) rfl rfl rfl ?_
  exact ⟨_, _, rfl, inferInstance, inferInstance, (inferInstance : Kp w _).out⟩
  go_simp
  refine hK.out _ _ inferInstance ?_
  clear hHeld hK K
  intro hHeld
  try simp only [Act.put, List.setIfInBounds_toArray, List.set_cons_zero, List.set_cons_succ]
  refine wpAnyH_ready (rs := [3]) (by kernel_rfl) (by simp) ?_
  refine AllReadyH.cons (by simp; rfl) (fun K hK => ?_) AllReadyH.nil
  go_simp
  refine hK.out _ _ inferInstance ?_
  clear hHeld hK K
  intro hHeld
  try simp only [Act.put, List.setIfInBounds_toArray, List.set_cons_zero, List.set_cons_succ]
  refine wpAnyH_take (i := 4) (v := ?z135) (by simp; rfl) (by kernel_rfl) (by kernel_rfl) (by kernel_rfl) (by exact fun _ _ _ h => h) (Or.inl ⟨by rfl, ?yz135⟩) hHeld ?_
  case yz135 => (intro wx hSw; have hSx := Ex1.mk hSw; go_simp; (try with_reducible rfl))
  try simp only [Act.put, List.setIfInBounds_toArray, List.set_cons_zero, List.set_cons_succ]
  refine wpAnyH_take (i := 6) (v := ?z136) (by simp; rfl) (by kernel_rfl) (by kernel_rfl) (by kernel_rfl) (by exact fun _ _ _ h => h) (Or.inl ⟨by rfl, ?yz136⟩) hHeld ?_
  case yz136 => (intro wx hSw; have hSx := Ex1.mk hSw; go_simp; (try with_reducible rfl))
  try simp only [Act.put, List.setIfInBounds_toArray, List.set_cons_zero, List.set_cons_succ]
  refine wpAnyH_done (by kernel_rfl) ?_ _
  clear hHeld
  go_wp2
  refine ret_bt rfl Tryz.underlying29 rfl (by kernel_rfl) rfl rfl rfl ?_
  exact ⟨_, _, rfl, inferInstance, inferInstance, (inferInstance : Kp w _).out⟩

theorem rparse_12 {w w1 w2 w3 : World} (s : ByteArray) {a0 a1 a2 : Addr} [h0 : Snt w 0 a0 w1] [h1 : Snt w 2 a1 w2] [h2 : Snt w 1 a2 w3] (hne : a1 ≠ a0) (hsz : s.size ≤ 1000000) (hh : hasSlash s.data.toList = true) (he : pKind (iDig (cutL s.data.toList)) = 1) (hf : pKind (cutR s.data.toList) = 2) :
    Calls Tryz.prog 67 #[.string s] w (ErrRet w (.agg #[.bool false, .slice none 0 0, .slice none 0 0]) a0) := by
  have i0 := h0.here
  have i1 := h1.here
  have i2 := h2.here
  clear h0 h1 h2
  have hlen := str_len s
  have hl1 := cutL_len s.data.toList
  have hl2 := cutR_len s.data.toList
  rw [← hlen] at hl1 hl2
  obtain ⟨pl, hpl⟩ : ∃ pl, cutL s.data.toList = pl := ⟨_, rfl⟩
  obtain ⟨ql, hql⟩ : ∃ ql, cutR s.data.toList = ql := ⟨_, rfl⟩
  have HC : Hid (hasSlash s.data.toList = true ∧ cutL s.data.toList = pl ∧ cutR s.data.toList = ql) := ⟨hh, hpl, hql⟩
  rw [hpl] at he hl1
  rw [hql] at hf hl2
  have HE := Lib.hid he
  have HF := Lib.hid hf
  clear hh he hf hlen hpl hql
  go_enter Tryz.func67, Tryz.ntmps67
  go_wp2_with fail
  with_reducible refine Calls.kCut (cutC s _ (by omega)) HC.out ?_
  intro W1 _ x y hx hy
  have hxs : x.size ≤ 1000000000 := by rw [str_len, hx.out]; omega
  have hys : y.size ≤ 1000000000 := by rw [str_len, hy.out]; omega
  have HE2 : Hid (pKind (iDig x.data.toList) = 1) := by show _; rw [hx.out]; exact HE.out
  have HF2 : Hid (pKind y.data.toList = 2) := by show _; rw [hy.out]; exact HF.out
  go_wp2_with (first
    | (go_at_call 131; (with_reducible refine Calls.kErr (iparse1 inferInstance inferInstance hxs HE2.out) ?_); intros)
    | (go_at_call 132; (with_reducible refine Calls.kErr (parse2 inferInstance inferInstance hys HF2.out) ?_); intros)
    | (go_at_call 18; (with_reducible refine Calls.cS (isNilC _) ?_))
    | (go_at_call 18; (with_reducible refine Calls.cS isSameC ?_))
    | (go_at_call 18; (with_reducible refine Calls.cS (isOtherC (g1 := 2) (g2 := 0) inferInstance inferInstance hne) ?_))
    | (go_at_call 133; (with_reducible refine Calls.cS (bitsC (by omega)) ?_); intros)
    | (go_at_call 134; (with_reducible refine Calls.cF (ofC (by omega)) ?_); intros)
    | (go_at_call 92; (with_reducible refine Calls.cA (rApiC (by omega)) ?_); intros))
  refine region_cls (by kernel_rfl) [w.heap.size] (fun hHeld => ?_)
  refine wpAnyH_take (i := 0) (v := ?z137) (by simp; rfl) (by kernel_rfl) (by kernel_rfl) (by kernel_rfl) (by exact fun _ _ _ h => h) (Or.inl ⟨by rfl, ?yz137⟩) hHeld ?_
  case yz137 => (intro wx hSw; have hSx := Ex1.mk hSw; go_simp; (try with_reducible rfl))
  try simp only [Act.put, List.setIfInBounds_toArray, List.set_cons_zero, List.set_cons_succ]
  refine wpAnyH_take (i := 1) (v := ?z138) (by simp; rfl) (by kernel_rfl) (by kernel_rfl) (by kernel_rfl) (by exact fun _ _ _ h => h) (Or.inl ⟨by rfl, ?yz138⟩) hHeld ?_
  case yz138 => (intro wx hSw; have hSx := Ex1.mk hSw; go_simp; (try with_reducible rfl))
  try simp only [Act.put, List.setIfInBounds_toArray, List.set_cons_zero, List.set_cons_succ]
  refine wpAnyH_take (i := 2) (v := ?z139) (by simp; rfl) (by kernel_rfl) (by kernel_rfl) (by kernel_rfl) (by exact fun _ _ _ h => h) (Or.inl ⟨by rfl, ?yz139⟩) hHeld ?_
  case yz139 => (intro wx hSw; have hSx := Ex1.mk hSw; go_simp; (try with_reducible rfl))
  try simp only [Act.put, List.setIfInBounds_toArray, List.set_cons_zero, List.set_cons_succ]
  refine wpAnyH_ready (rs := [3, 5]) (by kernel_rfl) (by simp) ?_
  refine AllReadyH.cons (by simp; rfl) (fun K hK => ?_) (AllReadyH.cons (by simp; rfl) (fun K hK => ?_) AllReadyH.nil)
  go_simp
  refine hK.out _ _ inferInstance ?_
  clear hHeld hK K
  intro hHeld
  try simp only [Act.put, List.setIfInBounds_toArray, List.set_cons_zero, List.set_cons_succ]
  refine wpAnyH_take (i := 4) (v := ?z140) (by simp; rfl) (by kernel_rfl) (by kernel_rfl) (by kernel_rfl) (by exact fun _ _ _ h => h) (Or.inl ⟨by rfl, ?yz140⟩) hHeld ?_
  case yz140 => (intro wx hSw; have hSx := Ex1.mk hSw; go_simp; (try with_reducible rfl))
  try simp only [Act.put, List.setIfInBounds_toArray, List.set_cons_zero, List.set_cons_succ]
  refine wpAnyH_ready (rs := [5]) (by kernel_rfl) (by simp) ?_
  refine AllReadyH.cons (by simp; rfl) (fun K hK => ?_) AllReadyH.nil
  go_simp
  refine hK.out _ _ inferInstance ?_
  clear hHeld hK K
  intro hHeld
  try simp only [Act.put, List.setIfInBounds_toArray, List.set_cons_zero, List.set_cons_succ]
  refine wpAnyH_take (i := 6) (v := ?z141) (by simp; rfl) (by kernel_rfl) (by kernel_rfl) (by kernel_rfl) (by exact fun _ _ _ h => h) (Or.inl ⟨by rfl, ?yz141⟩) hHeld ?_
  case yz141 => (intro wx hSw; have hSx := Ex1.mk hSw; go_simp; (try with_reducible rfl))
  try simp only [Act.put, List.setIfInBounds_toArray, List.set_cons_zero, List.set_cons_succ]
  refine wpAnyH_done (by kernel_rfl) ?_ _
  clear hHeld
  go_wp2
  refine ret_bt rfl Tryz.underlying29 rfl (by kernel_rfl) rfl rfl rfl ?_
  exact ⟨_, _, rfl, inferInstance, inferInstance, (inferInstance : Kp w _).out⟩
  go_simp
  refine hK.out _ _ inferInstance ?_
  clear hHeld hK K
  intro hHeld
  try simp only [Act.put, List.setIfInBounds_toArray, List.set_cons_zero, List.set_cons_succ]
  refine wpAnyH_ready (rs := [3]) (by kernel_rfl) (by simp) ?_
  refine AllReadyH.cons (by simp; rfl) (fun K hK => ?_) AllReadyH.nil
  go_simp
  refine hK.out _ _ inferInstance ?_
  clear hHeld hK K
  intro hHeld
  try simp only [Act.put, List.setIfInBounds_toArray, List.set_cons_zero, List.set_cons_succ]
  refine wpAnyH_take (i := 4) (v := ?z142) (by simp; rfl) (by kernel_rfl) (by kernel_rfl) (by kernel_rfl) (by exact fun _ _ _ h => h) (Or.inl ⟨by rfl, ?yz142⟩) hHeld ?_
  case yz142 => (intro wx hSw; have hSx := Ex1.mk hSw; go_simp; (try with_reducible rfl))
  try simp only [Act.put, List.setIfInBounds_toArray, List.set_cons_zero, List.set_cons_succ]
  refine wpAnyH_take (i := 6) (v := ?z143) (by simp; rfl) (by kernel_rfl) (by kernel_rfl) (by kernel_rfl) (by exact fun _ _ _ h => h) (Or.inl ⟨by rfl, ?yz143⟩) hHeld ?_
  case yz143 => (intro wx hSw; have hSx := Ex1.mk hSw; go_simp; (try with_reducible rfl))
  try simp only [Act.put, List.setIfInBounds_toArray, List.set_cons_zero, List.set_cons_succ]
  refine wpAnyH_done (by kernel_rfl) ?_ _
  clear hHeld
  go_wp2
  refine ret_bt rfl Tryz.underlying29 rfl (by kernel_rfl) rfl rfl rfl ?_
  exact ⟨_, _, rfl, inferInstance, inferInstance, (inferInstance : Kp w _).out⟩

theorem rparse_10 {w w1 w2 w3 : World} (s : ByteArray) {a0 a1 a2 : Addr} [h0 : Snt w 0 a0 w1] [h1 : Snt w 2 a1 w2] [h2 : Snt w 1 a2 w3] (hne : a1 ≠ a0) (hsz : s.size ≤ 1000000) {dn : Nat} (hh : hasSlash s.data.toList = true) (he : pKind (iDig (cutL s.data.toList)) = 1) (hf : pKind (cutR s.data.toList) = 0 ∧ bval (cutR s.data.toList) = dn) :
    Calls Tryz.prog 67 #[.string s] w (ErrRet w (.agg #[.bool false, .slice none 0 0, .slice none 0 0]) a0) := by
  have i0 := h0.here
  have i1 := h1.here
  have i2 := h2.here
  clear h0 h1 h2
  have hlen := str_len s
  have hl1 := cutL_len s.data.toList
  have hl2 := cutR_len s.data.toList
  rw [← hlen] at hl1 hl2
  obtain ⟨pl, hpl⟩ : ∃ pl, cutL s.data.toList = pl := ⟨_, rfl⟩
  obtain ⟨ql, hql⟩ : ∃ ql, cutR s.data.toList = ql := ⟨_, rfl⟩
  have HC : Hid (hasSlash s.data.toList = true ∧ cutL s.data.toList = pl ∧ cutR s.data.toList = ql) := ⟨hh, hpl, hql⟩
  rw [hpl] at he hl1
  rw [hql] at hf hl2
  have HE := Lib.hid he
  have HF := Lib.hid hf
  clear hh he hf hlen hpl hql
  go_enter Tryz.func67, Tryz.ntmps67
  go_wp2_with fail
  with_reducible refine Calls.kCut (cutC s _ (by omega)) HC.out ?_
  intro W1 _ x y hx hy
  have hxs : x.size ≤ 1000000000 := by rw [str_len, hx.out]; omega
  have hys : y.size ≤ 1000000000 := by rw [str_len, hy.out]; omega
  have HE2 : Hid (pKind (iDig x.data.toList) = 1) := by show _; rw [hx.out]; exact HE.out
  have HF2 : Hid (pKind y.data.toList = 0 ∧ bval y.data.toList = dn) := by show _; rw [hy.out]; exact HF.out
  go_wp2_with (first
    | (go_at_call 131; (with_reducible refine Calls.kErr (iparse1 inferInstance inferInstance hxs HE2.out) ?_); intros)
    | (go_at_call 132; (with_reducible refine Calls.kNum (parse0 inferInstance inferInstance hys HF2.out) ?_); intros)
    | (go_at_call 18; (with_reducible refine Calls.cS (isNilC _) ?_))
    | (go_at_call 18; (with_reducible refine Calls.cS isSameC ?_))
    | (go_at_call 18; (with_reducible refine Calls.cS (isOtherC (g1 := 2) (g2 := 0) inferInstance inferInstance hne) ?_))
    | (go_at_call 133; (with_reducible refine Calls.cS (bitsC (by omega)) ?_); intros)
    | (go_at_call 134; (with_reducible refine Calls.cF (ofC (by omega)) ?_); intros)
    | (go_at_call 92; (with_reducible refine Calls.cA (rApiC (by omega)) ?_); intros))
  refine region_cls (by kernel_rfl) [w.heap.size] (fun hHeld => ?_)
  refine wpAnyH_take (i := 0) (v := ?z144) (by simp; rfl) (by kernel_rfl) (by kernel_rfl) (by kernel_rfl) (by exact fun _ _ _ h => h) (Or.inl ⟨by rfl, ?yz144⟩) hHeld ?_
  case yz144 => (intro wx hSw; have hSx := Ex1.mk hSw; go_simp; (try with_reducible rfl))
  try simp only [Act.put, List.setIfInBounds_toArray, List.set_cons_zero, List.set_cons_succ]
  refine wpAnyH_take (i := 1) (v := ?z145) (by simp; rfl) (by kernel_rfl) (by kernel_rfl) (by kernel_rfl) (by exact fun _ _ _ h => h) (Or.inl ⟨by rfl, ?yz145⟩) hHeld ?_
  case yz145 => (intro wx hSw; have hSx := Ex1.mk hSw; go_simp; (try with_reducible rfl))
  try simp only [Act.put, List.setIfInBounds_toArray, List.set_cons_zero, List.set_cons_succ]
  refine wpAnyH_take (i := 2) (v := ?z146) (by simp; rfl) (by kernel_rfl) (by kernel_rfl) (by kernel_rfl) (by exact fun _ _ _ h => h) (Or.inl ⟨by rfl, ?yz146⟩) hHeld ?_
  case yz146 => (intro wx hSw; have hSx := Ex1.mk hSw; go_simp; (try with_reducible rfl))
  try simp only [Act.put, List.setIfInBounds_toArray, List.set_cons_zero, List.set_cons_succ]
  refine wpAnyH_ready (rs := [3, 5]) (by kernel_rfl) (by simp) ?_
  refine AllReadyH.cons (by simp; rfl) (fun K hK => ?_) (AllReadyH.cons (by simp; rfl) (fun K hK => ?_) AllReadyH.nil)
  go_simp
  refine hK.out _ _ inferInstance ?_
  clear hHeld hK K
  intro hHeld
  try simp only [Act.put, List.setIfInBounds_toArray, List.set_cons_zero, List.set_cons_succ]
  refine wpAnyH_take (i := 4) (v := ?z147) (by simp; rfl) (by kernel_rfl) (by kernel_rfl) (by kernel_rfl) (by exact fun _ _ _ h => h) (Or.inl ⟨by rfl, ?yz147⟩) hHeld ?_
  case yz147 => (intro wx hSw; have hSx := Ex1.mk hSw; go_simp; (try with_reducible rfl))
  try simp only [Act.put, List.setIfInBounds_toArray, List.set_cons_zero, List.set_cons_succ]
  refine wpAnyH_ready (rs := [5]) (by kernel_rfl) (by simp) ?_
  refine AllReadyH.cons (by simp; rfl) (fun K hK => ?_) AllReadyH.nil
  go_simp
  refine hK.out _ _ inferInstance ?_
  clear hHeld hK K
  intro hHeld
  try simp only [Act.put, List.setIfInBounds_toArray, List.set_cons_zero, List.set_cons_succ]
  refine wpAnyH_take (i := 6) (v := ?z148) (by simp; rfl) (by kernel_rfl) (by kernel_rfl) (by kernel_rfl) (by exact fun _ _ _ h => h) (Or.inl ⟨by rfl, ?yz148⟩) hHeld ?_
  case yz148 => (intro wx hSw; have hSx := Ex1.mk hSw; go_simp; (try with_reducible rfl))
  try simp only [Act.put, List.setIfInBounds_toArray, List.set_cons_zero, List.set_cons_succ]
  refine wpAnyH_done (by kernel_rfl) ?_ _
  clear hHeld
  go_wp2
  refine ret_bt rfl Tryz.underlying29 rfl (by kernel_rfl) rfl rfl rfl ?_
  exact ⟨_, _, rfl, inferInstance, inferInstance, (inferInstance : Kp w _).out⟩
  go_simp
  refine hK.out _ _ inferInstance ?_
  clear hHeld hK K
  intro hHeld
  try simp only [Act.put, List.setIfInBounds_toArray, List.set_cons_zero, List.set_cons_succ]
  refine wpAnyH_ready (rs := [3]) (by kernel_rfl) (by simp) ?_
  refine AllReadyH.cons (by simp; rfl) (fun K hK => ?_) AllReadyH.nil
  go_simp
  refine hK.out _ _ inferInstance ?_
  clear hHeld hK K
  intro hHeld
  try simp only [Act.put, List.setIfInBounds_toArray, List.set_cons_zero, List.set_cons_succ]
  refine wpAnyH_take (i := 4) (v := ?z149) (by simp; rfl) (by kernel_rfl) (by kernel_rfl) (by kernel_rfl) (by exact fun _ _ _ h => h) (Or.inl ⟨by rfl, ?yz149⟩) hHeld ?_
  case yz149 => (intro wx hSw; have hSx := Ex1.mk hSw; go_simp; (try with_reducible rfl))
  try simp only [Act.put, List.setIfInBounds_toArray, List.set_cons_zero, List.set_cons_succ]
  refine wpAnyH_take (i := 6) (v := ?z150) (by simp; rfl) (by kernel_rfl) (by kernel_rfl) (by kernel_rfl) (by exact fun _ _ _ h => h) (Or.inl ⟨by rfl, ?yz150⟩) hHeld ?_
  case yz150 => (intro wx hSw; have hSx := Ex1.mk hSw; go_simp; (try with_reducible rfl))
  try simp only [Act.put, List.setIfInBounds_toArray, List.set_cons_zero, List.set_cons_succ]
  refine wpAnyH_done (by kernel_rfl) ?_ _
  clear hHeld
  go_wp2
  refine ret_bt rfl Tryz.underlying29 rfl (by kernel_rfl) rfl rfl rfl ?_
  exact ⟨_, _, rfl, inferInstance, inferInstance, (inferInstance : Kp w _).out⟩

theorem rparse_21 {w w1 w2 w3 : World} (s : ByteArray) {a0 a1 a2 : Addr} [h0 : Snt w 0 a0 w1] [h1 : Snt w 2 a1 w2] [h2 : Snt w 1 a2 w3] (hne : a1 ≠ a0) (hsz : s.size ≤ 1000000) (hh : hasSlash s.data.toList = true) (he : pKind (iDig (cutL s.data.toList)) = 2) (hf : pKind (cutR s.data.toList) = 1) :
    Calls Tryz.prog 67 #[.string s] w (ErrRet w (.agg #[.bool false, .slice none 0 0, .slice none 0 0]) a0) := by
  have i0 := h0.here
  have i1 := h1.here
  have i2 := h2.here
  clear h0 h1 h2
  have hlen := str_len s
  have hl1 := cutL_len s.data.toList
  have hl2 := cutR_len s.data.toList
  rw [← hlen] at hl1 hl2
  obtain ⟨pl, hpl⟩ : ∃ pl, cutL s.data.toList = pl := ⟨_, rfl⟩
  obtain ⟨ql, hql⟩ : ∃ ql, cutR s.data.toList = ql := ⟨_, rfl⟩
  have HC : Hid (hasSlash s.data.toList = true ∧ cutL s.data.toList = pl ∧ cutR s.data.toList = ql) := ⟨hh, hpl, hql⟩
  rw [hpl] at he hl1
  rw [hql] at hf hl2
  have HE := Lib.hid he
  have HF := Lib.hid hf
  clear hh he hf hlen hpl hql
  go_enter Tryz.func67, Tryz.ntmps67
  go_wp2_with fail
  with_reducible refine Calls.kCut (cutC s _ (by omega)) HC.out ?_
  intro W1 _ x y hx hy
  have hxs : x.size ≤ 1000000000 := by rw [str_len, hx.out]; omega
  have hys : y.size ≤ 1000000000 := by rw [str_len, hy.out]; omega
  have HE2 : Hid (pKind (iDig x.data.toList) = 2) := by show _; rw [hx.out]; exact HE.out
  have HF2 : Hid (pKind y.data.toList = 1) := by show _; rw [hy.out]; exact HF.out
  go_wp2_with (first
    | (go_at_call 131; (with_reducible refine Calls.kErr (iparse2 inferInstance inferInstance hxs HE2.out) ?_); intros)
    | (go_at_call 132; (with_reducible refine Calls.kErr (parse1 inferInstance inferInstance hys HF2.out) ?_); intros)
    | (go_at_call 18; (with_reducible refine Calls.cS (isNilC _) ?_))
    | (go_at_call 18; (with_reducible refine Calls.cS isSameC ?_))
    | (go_at_call 18; (with_reducible refine Calls.cS (isOtherC (g1 := 2) (g2 := 0) inferInstance inferInstance hne) ?_))
    | (go_at_call 133; (with_reducible refine Calls.cS (bitsC (by omega)) ?_); intros)
    | (go_at_call 134; (with_reducible refine Calls.cF (ofC (by omega)) ?_); intros)
    | (go_at_call 92; (with_reducible refine Calls.cA (rApiC (by omega)) ?_); intros))
  refine region_cls (by kernel_rfl) [w.heap.size] (fun hHeld => ?_)
  refine wpAnyH_take (i := 0) (v := ?z151) (by simp; rfl) (by kernel_rfl) (by kernel_rfl) (by kernel_rfl) (by exact fun _ _ _ h => h) (Or.inl ⟨by rfl, ?yz151⟩) hHeld ?_
  case yz151 => (intro wx hSw; have hSx := Ex1.mk hSw; go_simp; (try with_reducible rfl))
  try simp only [Act.put, List.setIfInBounds_toArray, List.set_cons_zero, List.set_cons_succ]
  refine wpAnyH_take (i := 1) (v := ?z152) (by simp; rfl) (by kernel_rfl) (by kernel_rfl) (by kernel_rfl) (by exact fun _ _ _ h => h) (Or.inl ⟨by rfl, ?yz152⟩) hHeld ?_
  case yz152 => (intro wx hSw; have hSx := Ex1.mk hSw; go_simp; (try with_reducible rfl))
  try simp only [Act.put, List.setIfInBounds_toArray, List.set_cons_zero, List.set_cons_succ]
  refine wpAnyH_take (i := 2) (v := ?z153) (by simp; rfl) (by kernel_rfl) (by kernel_rfl) (by kernel_rfl) (by exact fun _ _ _ h => h) (Or.inl ⟨by rfl, ?yz153⟩) hHeld ?_
  case yz153 => (intro wx hSw; have hSx := Ex1.mk hSw; go_simp; (try with_reducible rfl))
  try simp only [Act.put, List.setIfInBounds_toArray, List.set_cons_zero, List.set_cons_succ]
  refine wpAnyH_ready (rs := [3, 5]) (by kernel_rfl) (by simp) ?_
  refine AllReadyH.cons (by simp; rfl) (fun K hK => ?_) (AllReadyH.cons (by simp; rfl) (fun K hK => ?_) AllReadyH.nil)
  go_simp
  refine hK.out _ _ inferInstance ?_
  clear hHeld hK K
  intro hHeld
  try simp only [Act.put, List.setIfInBounds_toArray, List.set_cons_zero, List.set_cons_succ]
  refine wpAnyH_take (i := 4) (v := ?z154) (by simp; rfl) (by kernel_rfl) (by kernel_rfl) (by kernel_rfl) (by exact fun _ _ _ h => h) (Or.inl ⟨by rfl, ?yz154⟩) hHeld ?_
  case yz154 => (intro wx hSw; have hSx := Ex1.mk hSw; go_simp; (try with_reducible rfl))
  try simp only [Act.put, List.setIfInBounds_toArray, List.set_cons_zero, List.set_cons_succ]
  refine wpAnyH_ready (rs := [5]) (by kernel_rfl) (by simp) ?_
  refine AllReadyH.cons (by simp; rfl) (fun K hK => ?_) AllReadyH.nil
  go_simp
  refine hK.out _ _ inferInstance ?_
  clear hHeld hK K
  intro hHeld
  try simp only [Act.put, List.setIfInBounds_toArray, List.set_cons_zero, List.set_cons_succ]
  refine wpAnyH_take (i := 6) (v := ?z155) (by simp; rfl) (by kernel_rfl) (by kernel_rfl) (by kernel_rfl) (by exact fun _ _ _ h => h) (Or.inl ⟨by rfl, ?yz155⟩) hHeld ?_
  case yz155 => (intro wx hSw; have hSx := Ex1.mk hSw; go_simp; (try with_reducible rfl))
  try simp only [Act.put, List.setIfInBounds_toArray, List.set_cons_zero, List.set_cons_succ]
  refine wpAnyH_done (by kernel_rfl) ?_ _
  clear hHeld
  go_wp2
  refine ret_bt rfl Tryz.underlying29 rfl (by kernel_rfl) rfl rfl rfl ?_
  exact ⟨_, _, rfl, inferInstance, inferInstance, (inferInstance : Kp w _).out⟩
  go_simp
  refine hK.out _ _ inferInstance ?_
  clear hHeld hK K
  intro hHeld
  try simp only [Act.put, List.setIfInBounds_toArray, List.set_cons_zero, List.set_cons_succ]
  refine wpAnyH_ready (rs := [3]) (by kernel_rfl) (by simp) ?_
  refine AllReadyH.cons (by simp; rfl) (fun K hK => ?_) AllReadyH.nil
  go_simp
  refine hK.out _ _ inferInstance ?_
  clear hHeld hK K
  intro hHeld
  try simp only [Act.put, List.setIfInBounds_toArray, List.set_cons_zero, List.set_cons_succ]
  refine wpAnyH_take (i := 4) (v := ?z156) (by simp; rfl) (by kernel_rfl) (by kernel_rfl) (by kernel_rfl) (by exact fun _ _ _ h => h) (Or.inl ⟨by rfl, ?yz156⟩) hHeld ?_
  case yz156 => (intro wx hSw; have hSx := Ex1.mk hSw; go_simp; (try with_reducible rfl))
  try simp only [Act.put, List.setIfInBounds_toArray, List.set_cons_zero, List.set_cons_succ]
  refine wpAnyH_take (i := 6) (v := ?z157) (by simp; rfl) (by kernel_rfl) (by kernel_rfl) (by kernel_rfl) (by exact fun _ _ _ h => h) (Or.inl ⟨by rfl, ?yz157⟩) hHeld ?_
  case yz157 => (intro wx hSw; have hSx := Ex1.mk hSw; go_simp; (try with_reducible rfl))
  try simp only [Act.put, List.setIfInBounds_toArray, List.set_cons_zero, List.set_cons_succ]
  refine wpAnyH_done (by kernel_rfl) ?_ _
  clear hHeld
  go_wp2
  refine ret_bt rfl Tryz.underlying29 rfl (by kernel_rfl) rfl rfl rfl ?_
  exact ⟨_, _, rfl, inferInstance, inferInstance, (inferInstance : Kp w _).out⟩

theorem rparse_22 {w w1 w2 w3 : World} (s : ByteArray) {a0 a1 a2 : Addr} [h0 : Snt w 0 a0 w1] [h1 : Snt w 2 a1 w2] [h2 : Snt w 1 a2 w3] (hne : a1 ≠ a0) (hsz : s.size ≤ 1000000) (hh : hasSlash s.data.toList = true) (he : pKind (iDig (cutL s.data.toList)) = 2) (hf : pKind (cutR s.data.toList) = 2) :
    Calls Tryz.prog 67 #[.string s] w (ErrRet w (.agg #[.bool false, .slice none 0 0, .slice none 0 0]) a1) := by
  have i0 := h0.here
  have i1 := h1.here
  have i2 := h2.here
  clear h0 h1 h2
  have hlen := str_len s
  have hl1 := cutL_len s.data.toList
  have hl2 := cutR_len s.data.toList
  rw [← hlen] at hl1 hl2
  obtain ⟨pl, hpl⟩ : ∃ pl, cutL s.data.toList = pl := ⟨_, rfl⟩
  obtain ⟨ql, hql⟩ : ∃ ql, cutR s.data.toList = ql := ⟨_, rfl⟩
  have HC : Hid (hasSlash s.data.toList = true ∧ cutL s.data.toList = pl ∧ cutR s.data.toList = ql) := ⟨hh, hpl, hql⟩
  rw [hpl] at he hl1
  rw [hql] at hf hl2
  have HE := Lib.hid he
  have HF := Lib.hid hf
  clear hh he hf hlen hpl hql
  go_enter Tryz.func67, Tryz.ntmps67
  go_wp2_with fail
  with_reducible refine Calls.kCut (cutC s _ (by omega)) HC.out ?_
  intro W1 _ x y hx hy
  have hxs : x.size ≤ 1000000000 := by rw [str_len, hx.out]; omega
  have hys : y.size ≤ 1000000000 := by rw [str_len, hy.out]; omega
  have HE2 : Hid (pKind (iDig x.data.toList) = 2) := by show _; rw [hx.out]; exact HE.out
  have HF2 : Hid (pKind y.data.toList = 2) := by show _; rw [hy.out]; exact HF.out
  go_wp2_with (first
    | (go_at_call 131; (with_reducible refine Calls.kErr (iparse2 inferInstance inferInstance hxs HE2.out) ?_); intros)
    | (go_at_call 132; (with_reducible refine Calls.kErr (parse2 inferInstance inferInstance hys HF2.out) ?_); intros)
    | (go_at_call 18; (with_reducible refine Calls.cS (isNilC _) ?_))
    | (go_at_call 18; (with_reducible refine Calls.cS isSameC ?_))
    | (go_at_call 18; (with_reducible refine Calls.cS (isOtherC (g1 := 2) (g2 := 0) inferInstance inferInstance hne) ?_))
    | (go_at_call 133; (with_reducible refine Calls.cS (bitsC (by omega)) ?_); intros)
    | (go_at_call 134; (with_reducible refine Calls.cF (ofC (by omega)) ?_); intros)
    | (go_at_call 92; (with_reducible refine Calls.cA (rApiC (by omega)) ?_); intros))
  refine region_cls (by kernel_rfl) [w.heap.size] (fun hHeld => ?_)
  refine wpAnyH_take (i := 0) (v := ?z158) (by simp; rfl) (by kernel_rfl) (by kernel_rfl) (by kernel_rfl) (by exact fun _ _ _ h => h) (Or.inl ⟨by rfl, ?yz158⟩) hHeld ?_
  case yz158 => (intro wx hSw; have hSx := Ex1.mk hSw; go_simp; (try with_reducible rfl))
  try simp only [Act.put, List.setIfInBounds_toArray, List.set_cons_zero, List.set_cons_succ]
  refine wpAnyH_take (i := 1) (v := ?z159) (by simp; rfl) (by kernel_rfl) (by kernel_rfl) (by kernel_rfl) (by exact fun _ _ _ h => h) (Or.inl ⟨by rfl, ?yz159⟩) hHeld ?_
  case yz159 => (intro wx hSw; have hSx := Ex1.mk hSw; go_simp; (try with_reducible rfl))
  try simp only [Act.put, List.setIfInBounds_toArray, List.set_cons_zero, List.set_cons_succ]
  refine wpAnyH_take (i := 2) (v := ?z160) (by simp; rfl) (by kernel_rfl) (by kernel_rfl) (by kernel_rfl) (by exact fun _ _ _ h => h) (Or.inl ⟨by rfl, ?yz160⟩) hHeld ?_
  case yz160 => (intro wx hSw; have hSx := Ex1.mk hSw; go_simp; (try with_reducible rfl))
  try simp only [Act.put, List.setIfInBounds_toArray, List.set_cons_zero, List.set_cons_succ]
  refine wpAnyH_ready (rs := [3, 5]) (by kernel_rfl) (by simp) ?_
  refine AllReadyH.cons (by simp; rfl) (fun K hK => ?_) (AllReadyH.cons (by simp; rfl) (fun K hK => ?_) AllReadyH.nil)
  go_simp
  refine hK.out _ _ inferInstance ?_
  clear hHeld hK K
  intro hHeld
  try simp only [Act.put, List.setIfInBounds_toArray, List.set_cons_zero, List.set_cons_succ]
  refine wpAnyH_take (i := 4) (v := ?z161) (by simp; rfl) (by kernel_rfl) (by kernel_rfl) (by kernel_rfl) (by exact fun _ _ _ h => h) (Or.inl ⟨by rfl, ?yz161⟩) hHeld ?_
  case yz161 => (intro wx hSw; have hSx := Ex1.mk hSw; go_simp; (try with_reducible rfl))
  try simp only [Act.put, List.setIfInBounds_toArray, List.set_cons_zero, List.set_cons_succ]
  refine wpAnyH_ready (rs := [5]) (by kernel_rfl) (by simp) ?_
  refine AllReadyH.cons (by simp; rfl) (fun K hK => ?_) AllReadyH.nil
  go_simp
  refine hK.out _ _ inferInstance ?_
  clear hHeld hK K
  intro hHeld
  try simp only [Act.put, List.setIfInBounds_toArray, List.set_cons_zero, List.set_cons_succ]
  refine wpAnyH_take (i := 6) (v := ?z162) (by simp; rfl) (by kernel_rfl) (by kernel_rfl) (by kernel_rfl) (by exact fun _ _ _ h => h) (Or.inl ⟨by rfl, ?yz162⟩) hHeld ?_
  case yz162 => (intro wx hSw; have hSx := Ex1.mk hSw; go_simp; (try with_reducible rfl))
  try simp only [Act.put, List.setIfInBounds_toArray, List.set_cons_zero, List.set_cons_succ]
  refine wpAnyH_done (by kernel_rfl) ?_ _
  clear hHeld
  go_wp2
  refine ret_bt rfl Tryz.underlying29 rfl (by kernel_rfl) rfl rfl rfl ?_
  exact ⟨_, _, rfl, inferInstance, inferInstance, (inferInstance : Kp w _).out⟩
  go_simp
  refine hK.out _ _ inferInstance ?_
  clear hHeld hK K
  intro hHeld
  try simp only [Act.put, List.setIfInBounds_toArray, List.set_cons_zero, List.set_cons_succ]
  refine wpAnyH_ready (rs := [3]) (by kernel_rfl) (by simp) ?_
  refine AllReadyH.cons (by simp; rfl) (fun K hK => ?_) AllReadyH.nil
  go_simp
  refine hK.out _ _ inferInstance ?_
  clear hHeld hK K
  intro hHeld
  try simp only [Act.put, List.setIfInBounds_toArray, List.set_cons_zero, List.set_cons_succ]
  refine wpAnyH_take (i := 4) (v := ?z163) (by simp; rfl) (by kernel_rfl) (by kernel_rfl) (by kernel_rfl) (by exact fun _ _ _ h => h) (Or.inl ⟨by rfl, ?yz163⟩) hHeld ?_
  case yz163 => (intro wx hSw; have hSx := Ex1.mk hSw; go_simp; (try with_reducible rfl))
  try simp only [Act.put, List.setIfInBounds_toArray, List.set_cons_zero, List.set_cons_succ]
  refine wpAnyH_take (i := 6) (v := ?z164) (by simp; rfl) (by kernel_rfl) (by kernel_rfl) (by kernel_rfl) (by exact fun _ _ _ h => h) (Or.inl ⟨by rfl, ?yz164⟩) hHeld ?_
  case yz164 => (intro wx hSw; have hSx := Ex1.mk hSw; go_simp; (try with_reducible rfl))
  try simp only [Act.put, List.setIfInBounds_toArray, List.set_cons_zero, List.set_cons_succ]
  refine wpAnyH_done (by kernel_rfl) ?_ _
  clear hHeld
  go_wp2
  refine ret_bt rfl Tryz.underlying29 rfl (by kernel_rfl) rfl rfl rfl ?_
  exact ⟨_, _, rfl, inferInstance, inferInstance, (inferInstance : Kp w _).out⟩

theorem rparse_20 {w w1 w2 w3 : World} (s : ByteArray) {a0 a1 a2 : Addr} [h0 : Snt w 0 a0 w1] [h1 : Snt w 2 a1 w2] [h2 : Snt w 1 a2 w3] (hne : a1 ≠ a0) (hsz : s.size ≤ 1000000) {dn : Nat} (hh : hasSlash s.data.toList = true) (he : pKind (iDig (cutL s.data.toList)) = 2) (hf : pKind (cutR s.data.toList) = 0 ∧ bval (cutR s.data.toList) = dn) :
    Calls Tryz.prog 67 #[.string s] w (ErrRet w (.agg #[.bool false, .slice none 0 0, .slice none 0 0]) a1) := by
  have i0 := h0.here
  have i1 := h1.here
  have i2 := h2.here
  clear h0 h1 h2
  have hlen := str_len s
  have hl1 := cutL_len s.data.toList
  have hl2 := cutR_len s.data.toList
  rw [← hlen] at hl1 hl2
  obtain ⟨pl, hpl⟩ : ∃ pl, cutL s.data.toList = pl := ⟨_, rfl⟩
  obtain ⟨ql, hql⟩ : ∃ ql, cutR s.data.toList = ql := ⟨_, rfl⟩
  have HC : Hid (hasSlash s.data.toList = true ∧ cutL s.data.toList = pl ∧ cutR s.data.toList = ql) := ⟨hh, hpl, hql⟩
  rw [hpl] at he hl1
  rw [hql] at hf hl2
  have HE := Lib.hid he
  have HF := Lib.hid hf
  clear hh he hf hlen hpl hql
  go_enter Tryz.func67, Tryz.ntmps67
  go_wp2_with fail
  with_reducible refine Calls.kCut (cutC s _ (by omega)) HC.out ?_
  intro W1 _ x y hx hy
  have hxs : x.size ≤ 1000000000 := by rw [str_len, hx.out]; omega
  have hys : y.size ≤ 1000000000 := by rw [str_len, hy.out]; omega
  have HE2 : Hid (pKind (iDig x.data.toList) = 2) := by show _; rw [hx.out]; exact HE.out
  have HF2 : Hid (pKind y.data.toList = 0 ∧ bval y.data.toList = dn) := by show _; rw [hy.out]; exact HF.out
  go_wp2_with (first
    | (go_at_call 131; (with_reducible refine Calls.kErr (iparse2 inferInstance inferInstance hxs HE2.out) ?_); intros)
    | (go_at_call 132; (with_reducible refine Calls.kNum (parse0 inferInstance inferInstance hys HF2.out) ?_); intros)
    | (go_at_call 18; (with_reducible refine Calls.cS (isNilC _) ?_))
    | (go_at_call 18; (with_reducible refine Calls.cS isSameC ?_))
    | (go_at_call 18; (with_reducible refine Calls.cS (isOtherC (g1 := 2) (g2 := 0) inferInstance inferInstance hne) ?_))
    | (go_at_call 133; (with_reducible refine Calls.cS (bitsC (by omega)) ?_); intros)
    | (go_at_call 134; (with_reducible refine Calls.cF (ofC (by omega)) ?_); intros)
    | (go_at_call 92; (with_reducible refine Calls.cA (rApiC (by omega)) ?_); intros))
  refine region_cls (by kernel_rfl) [w.heap.size] (fun hHeld => ?_)
  refine wpAnyH_take (i := 0) (v := ?z165) (by simp; rfl) (by kernel_rfl) (by kernel_rfl) (by kernel_rfl) (by exact fun _ _ _ h => h) (Or.inl ⟨by rfl, ?yz165⟩) hHeld ?_
  case yz165 => (intro wx hSw; have hSx := Ex1.mk hSw; go_simp; (try with_reducible rfl))
  try simp only [Act.put, List.setIfInBounds_toArray, List.set_cons_zero, List.set_cons_succ]
  refine wpAnyH_take (i := 1) (v := ?z166) (by simp; rfl) (by kernel_rfl) (by kernel_rfl) (by kernel_rfl) (by exact fun _ _ _ h => h) (Or.inl ⟨by rfl, ?yz166⟩) hHeld ?_
  case yz166 => (intro wx hSw; have hSx := Ex1.mk hSw; go_simp; (try with_reducible rfl))
  try simp only [Act.put, List.setIfInBounds_toArray, List.set_cons_zero, List.set_cons_succ]
  refine wpAnyH_take (i := 2) (v := ?z167) (by simp; rfl) (by kernel_rfl) (by kernel_rfl) (by kernel_rfl) (by exact fun _ _ _ h => h) (Or.inl ⟨by rfl, ?yz167⟩) hHeld ?_
  case yz167 => (intro wx hSw; have hSx := Ex1.mk hSw; go_simp; (try with_reducible rfl))
  try simp only [Act.put, List.setIfInBounds_toArray, List.set_cons_zero, List.set_cons_succ]
  refine wpAnyH_ready (rs := [3, 5]) (by kernel_rfl) (by simp) ?_
  refine AllReadyH.cons (by simp; rfl) (fun K hK => ?_) (AllReadyH.cons (by simp; rfl) (fun K hK => ?_) AllReadyH.nil)
  go_simp
  refine hK.out _ _ inferInstance ?_
  clear hHeld hK K
  intro hHeld
  try simp only [Act.put, List.setIfInBounds_toArray, List.set_cons_zero, List.set_cons_succ]
  refine wpAnyH_take (i := 4) (v := ?z168) (by simp; rfl) (by kernel_rfl) (by kernel_rfl) (by kernel_rfl) (by exact fun _ _ _ h => h) (Or.inl ⟨by rfl, ?yz168⟩) hHeld ?_
  case yz168 => (intro wx hSw; have hSx := Ex1.mk hSw; go_simp; (try with_reducible rfl))
  try simp only [Act.put, List.setIfInBounds_toArray, List.set_cons_zero, List.set_cons_succ]
  refine wpAnyH_ready (rs := [5]) (by kernel_rfl) (by simp) ?_
  refine AllReadyH.cons (by simp; rfl) (fun K hK => ?_) AllReadyH.nil
  go_simp
  refine hK.out _ _ inferInstance ?_
  clear hHeld hK K
  intro hHeld
  try simp only [Act.put, List.setIfInBounds_toArray, List.set_cons_zero, List.set_cons_succ]
  refine wpAnyH_take (i := 6) (v := ?z169) (by simp; rfl) (by kernel_rfl) (by kernel_rfl) (by kernel_rfl) (by exact fun _ _ _ h => h) (Or.inl ⟨by rfl, ?yz169⟩) hHeld ?_
  case yz169 => (intro wx hSw; have hSx := Ex1.mk hSw; go_simp; (try with_reducible rfl))
  try simp only [Act.put, List.setIfInBounds_toArray, List.set_cons_zero, List.set_cons_succ]
  refine wpAnyH_done (by kernel_rfl) ?_ _
  clear hHeld
  go_wp2
  refine ret_bt rfl Tryz.underlying29 rfl (by kernel_rfl) rfl rfl rfl ?_
  exact ⟨_, _, rfl, inferInstance, inferInstance, (inferInstance : Kp w _).out⟩
  go_simp
  refine hK.out _ _ inferInstance ?_
  clear hHeld hK K
  intro hHeld
  try simp only [Act.put, List.setIfInBounds_toArray, List.set_cons_zero, List.set_cons_succ]
  refine wpAnyH_ready (rs := [3]) (by kernel_rfl) (by simp) ?_
  refine AllReadyH.cons (by simp; rfl) (fun K hK => ?_) AllReadyH.nil
  go_simp
  refine hK.out _ _ inferInstance ?_
  clear hHeld hK K
  intro hHeld
  try simp only [Act.put, List.setIfInBounds_toArray, List.set_cons_zero, List.set_cons_succ]
  refine wpAnyH_take (i := 4) (v := ?z170) (by simp; rfl) (by kernel_rfl) (by kernel_rfl) (by kernel_rfl) (by exact fun _ _ _ h => h) (Or.inl ⟨by rfl, ?yz170⟩) hHeld ?_
  case yz170 => (intro wx hSw; have hSx := Ex1.mk hSw; go_simp; (try with_reducible rfl))
  try simp only [Act.put, List.setIfInBounds_toArray, List.set_cons_zero, List.set_cons_succ]
  refine wpAnyH_take (i := 6) (v := ?z171) (by simp; rfl) (by kernel_rfl) (by kernel_rfl) (by kernel_rfl) (by exact fun _ _ _ h => h) (Or.inl ⟨by rfl, ?yz171⟩) hHeld ?_
  case yz171 => (intro wx hSw; have hSx := Ex1.mk hSw; go_simp; (try with_reducible rfl))
  try simp only [Act.put, List.setIfInBounds_toArray, List.set_cons_zero, List.set_cons_succ]
  refine wpAnyH_done (by kernel_rfl) ?_ _
  clear hHeld
  go_wp2
  refine ret_bt rfl Tryz.underlying29 rfl (by kernel_rfl) rfl rfl rfl ?_
  exact ⟨_, _, rfl, inferInstance, inferInstance, (inferInstance : Kp w _).out⟩

theorem rparse_01 {w w1 w2 w3 : World} (s : ByteArray) {a0 a1 a2 : Addr} [h0 : Snt w 0 a0 w1] [h1 : Snt w 2 a1 w2] [h2 : Snt w 1 a2 w3] (hne : a1 ≠ a0) (hsz : s.size ≤ 1000000) {zn : Int} (hh : hasSlash s.data.toList = true) (he : pKind (iDig (cutL s.data.toList)) = 0 ∧ iVal (cutL s.data.toList) = zn) (hf : pKind (cutR s.data.toList) = 1) :
    Calls Tryz.prog 67 #[.string s] w (ErrRet w (.agg #[.bool false, .slice none 0 0, .slice none 0 0]) a0) := by
  have i0 := h0.here
  have i1 := h1.here
  have i2 := h2.here
  clear h0 h1 h2
  have hlen := str_len s
  have hl1 := cutL_len s.data.toList
  have hl2 := cutR_len s.data.toList
  rw [← hlen] at hl1 hl2
  obtain ⟨pl, hpl⟩ : ∃ pl, cutL s.data.toList = pl := ⟨_, rfl⟩
  obtain ⟨ql, hql⟩ : ∃ ql, cutR s.data.toList = ql := ⟨_, rfl⟩
  have HC : Hid (hasSlash s.data.toList = true ∧ cutL s.data.toList = pl ∧ cutR s.data.toList = ql) := ⟨hh, hpl, hql⟩
  rw [hpl] at he hl1
  rw [hql] at hf hl2
  have HE := Lib.hid he
  have HF := Lib.hid hf
  clear hh he hf hlen hpl hql
  go_enter Tryz.func67, Tryz.ntmps67
  go_wp2_with fail
  with_reducible refine Calls.kCut (cutC s _ (by omega)) HC.out ?_
  intro W1 _ x y hx hy
  have hxs : x.size ≤ 1000000000 := by rw [str_len, hx.out]; omega
  have hys : y.size ≤ 1000000000 := by rw [str_len, hy.out]; omega
  have HE2 : Hid (pKind (iDig x.data.toList) = 0 ∧ iVal x.data.toList = zn) := by show _; rw [hx.out]; exact HE.out
  have HF2 : Hid (pKind y.data.toList = 1) := by show _; rw [hy.out]; exact HF.out
  go_wp2_with (first
    | (go_at_call 131; (with_reducible refine Calls.kInt (iparse0 inferInstance inferInstance hxs HE2.out) ?_); intros)
    | (go_at_call 132; (with_reducible refine Calls.kErr (parse1 inferInstance inferInstance hys HF2.out) ?_); intros)
    | (go_at_call 18; (with_reducible refine Calls.cS (isNilC _) ?_))
    | (go_at_call 18; (with_reducible refine Calls.cS isSameC ?_))
    | (go_at_call 18; (with_reducible refine Calls.cS (isOtherC (g1 := 2) (g2 := 0) inferInstance inferInstance hne) ?_))
    | (go_at_call 133; (with_reducible refine Calls.cS (bitsC (by omega)) ?_); intros)
    | (go_at_call 134; (with_reducible refine Calls.cF (ofC (by omega)) ?_); intros)
    | (go_at_call 92; (with_reducible refine Calls.cA (rApiC (by omega)) ?_); intros))
  refine region_cls (by kernel_rfl) [w.heap.size] (fun hHeld => ?_)
  refine wpAnyH_take (i := 0) (v := ?z172) (by simp; rfl) (by kernel_rfl) (by kernel_rfl) (by kernel_rfl) (by exact fun _ _ _ h => h) (Or.inl ⟨by rfl, ?yz172⟩) hHeld ?_
  case yz172 => (intro wx hSw; have hSx := Ex1.mk hSw; go_simp; (try with_reducible rfl))
  try simp only [Act.put, List.setIfInBounds_toArray, List.set_cons_zero, List.set_cons_succ]
  refine wpAnyH_take (i := 1) (v := ?z173) (by simp; rfl) (by kernel_rfl) (by kernel_rfl) (by kernel_rfl) (by exact fun _ _ _ h => h) (Or.inl ⟨by rfl, ?yz173⟩) hHeld ?_
  case yz173 => (intro wx hSw; have hSx := Ex1.mk hSw; go_simp; (try with_reducible rfl))
  try simp only [Act.put, List.setIfInBounds_toArray, List.set_cons_zero, List.set_cons_succ]
  refine wpAnyH_take (i := 2) (v := ?z174) (by simp; rfl) (by kernel_rfl) (by kernel_rfl) (by kernel_rfl) (by exact fun _ _ _ h => h) (Or.inl ⟨by rfl, ?yz174⟩) hHeld ?_
  case yz174 => (intro wx hSw; have hSx := Ex1.mk hSw; go_simp; (try with_reducible rfl))
  try simp only [Act.put, List.setIfInBounds_toArray, List.set_cons_zero, List.set_cons_succ]
  refine wpAnyH_ready (rs := [3, 5]) (by kernel_rfl) (by simp) ?_
  refine AllReadyH.cons (by simp; rfl) (fun K hK => ?_) (AllReadyH.cons (by simp; rfl) (fun K hK => ?_) AllReadyH.nil)
  go_simp
  refine hK.out _ _ inferInstance ?_
  clear hHeld hK K
  intro hHeld
  try simp only [Act.put, List.setIfInBounds_toArray, List.set_cons_zero, List.set_cons_succ]
  refine wpAnyH_take (i := 4) (v := ?z175) (by simp; rfl) (by kernel_rfl) (by kernel_rfl) (by kernel_rfl) (by exact fun _ _ _ h => h) (Or.inl ⟨by rfl, ?yz175⟩) hHeld ?_
  case yz175 => (intro wx hSw; have hSx := Ex1.mk hSw; go_simp; (try with_reducible rfl))
  try simp only [Act.put, List.setIfInBounds_toArray, List.set_cons_zero, List.set_cons_succ]
  refine wpAnyH_ready (rs := [5]) (by kernel_rfl) (by simp) ?_
  refine AllReadyH.cons (by simp; rfl) (fun K hK => ?_) AllReadyH.nil
  go_simp
  refine hK.out _ _ inferInstance ?_
  clear hHeld hK K
  intro hHeld
  try simp only [Act.put, List.setIfInBounds_toArray, List.set_cons_zero, List.set_cons_succ]
  refine wpAnyH_take (i := 6) (v := ?z176) (by simp; rfl) (by kernel_rfl) (by kernel_rfl) (by kernel_rfl) (by exact fun _ _ _ h => h) (Or.inl ⟨by rfl, ?yz176⟩) hHeld ?_
  case yz176 => (intro wx hSw; have hSx := Ex1.mk hSw; go_simp; (try with_reducible rfl))
  try simp only [Act.put, List.setIfInBounds_toArray, List.set_cons_zero, List.set_cons_succ]
  refine wpAnyH_done (by kernel_rfl) ?_ _
  clear hHeld
  go_wp2
  refine ret_bt rfl Tryz.underlying29 rfl (by kernel_rfl) rfl rfl rfl ?_
  exact ⟨_, _, rfl, inferInstance, inferInstance, (inferInstance : Kp w _).out⟩
  go_simp
  refine hK.out _ _ inferInstance ?_
  clear hHeld hK K
  intro hHeld
  try simp only [Act.put, List.setIfInBounds_toArray, List.set_cons_zero, List.set_cons_succ]
  refine wpAnyH_ready (rs := [3]) (by kernel_rfl) (by simp) ?_
  refine AllReadyH.cons (by simp; rfl) (fun K hK => ?_) AllReadyH.nil
  go_simp
  refine hK.out _ _ inferInstance ?_
  clear hHeld hK K
  intro hHeld
  try simp only [Act.put, List.setIfInBounds_toArray, List.set_cons_zero, List.set_cons_succ]
  refine wpAnyH_take (i := 4) (v := ?z177) (by simp; rfl) (by kernel_rfl) (by kernel_rfl) (by kernel_rfl) (by exact fun _ _ _ h => h) (Or.inl ⟨by rfl, ?yz177⟩) hHeld ?_
  case yz177 => (intro wx hSw; have hSx := Ex1.mk hSw; go_simp; (try with_reducible rfl))
  try simp only [Act.put, List.setIfInBounds_toArray, List.set_cons_zero, List.set_cons_succ]
  refine wpAnyH_take (i := 6) (v := ?z178) (by simp; rfl) (by kernel_rfl) (by kernel_rfl) (by kernel_rfl) (by exact fun _ _ _ h => h) (Or.inl ⟨by rfl, ?yz178⟩) hHeld ?_
  case yz178 => (intro wx hSw; have hSx := Ex1.mk hSw; go_simp; (try with_reducible rfl))
  try simp only [Act.put, List.setIfInBounds_toArray, List.set_cons_zero, List.set_cons_succ]
  refine wpAnyH_done (by kernel_rfl) ?_ _
  clear hHeld
  go_wp2
  refine ret_bt rfl Tryz.underlying29 rfl (by kernel_rfl) rfl rfl rfl ?_
  exact ⟨_, _, rfl, inferInstance, inferInstance, (inferInstance : Kp w _).out⟩

theorem rparse_02 {w w1 w2 w3 : World} (s : ByteArray) {a0 a1 a2 : Addr} [h0 : Snt w 0 a0 w1] [h1 : Snt w 2 a1 w2] [h2 : Snt w 1 a2 w3] (hne : a1 ≠ a0) (hsz : s.size ≤ 1000000) {zn : Int} (hh : hasSlash s.data.toList = true) (he : pKind (iDig (cutL s.data.toList)) = 0 ∧ iVal (cutL s.data.toList) = zn) (hf : pKind (cutR s.data.toList) = 2) :
    Calls Tryz.prog 67 #[.string s] w (ErrRet w (.agg #[.bool false, .slice none 0 0, .slice none 0 0]) a1) := by
  have i0 := h0.here
  have i1 := h1.here
  have i2 := h2.here
  clear h0 h1 h2
  have hlen := str_len s
  have hl1 := cutL_len s.data.toList
  have hl2 := cutR_len s.data.toList
  rw [← hlen] at hl1 hl2
  obtain ⟨pl, hpl⟩ : ∃ pl, cutL s.data.toList = pl := ⟨_, rfl⟩
  obtain ⟨ql, hql⟩ : ∃ ql, cutR s.data.toList = ql := ⟨_, rfl⟩
  have HC : Hid (hasSlash s.data.toList = true ∧ cutL s.data.toList = pl ∧ cutR s.data.toList = ql) := ⟨hh, hpl, hql⟩
  rw [hpl] at he hl1
  rw [hql] at hf hl2
  have HE := Lib.hid he
  have HF := Lib.hid hf
  clear hh he hf hlen hpl hql
  go_enter Tryz.func67, Tryz.ntmps67
  go_wp2_with fail
  with_reducible refine Calls.kCut (cutC s _ (by omega)) HC.out ?_
  intro W1 _ x y hx hy
  have hxs : x.size ≤ 1000000000 := by rw [str_len, hx.out]; omega
  have hys : y.size ≤ 1000000000 := by rw [str_len, hy.out]; omega
  have HE2 : Hid (pKind (iDig x.data.toList) = 0 ∧ iVal x.data.toList = zn) := by show _; rw [hx.out]; exact HE.out
  have HF2 : Hid (pKind y.data.toList = 2) := by show _; rw [hy.out]; exact HF.out
  go_wp2_with (first
    | (go_at_call 131; (with_reducible refine Calls.kInt (iparse0 inferInstance inferInstance hxs HE2.out) ?_); intros)
    | (go_at_call 132; (with_reducible refine Calls.kErr (parse2 inferInstance inferInstance hys HF2.out) ?_); intros)
    | (go_at_call 18; (with_reducible refine Calls.cS (isNilC _) ?_))
    | (go_at_call 18; (with_reducible refine Calls.cS isSameC ?_))
    | (go_at_call 18; (with_reducible refine Calls.cS (isOtherC (g1 := 2) (g2 := 0) inferInstance inferInstance hne) ?_))
    | (go_at_call 133; (with_reducible refine Calls.cS (bitsC (by omega)) ?_); intros)
    | (go_at_call 134; (with_reducible refine Calls.cF (ofC (by omega)) ?_); intros)
    | (go_at_call 92; (with_reducible refine Calls.cA (rApiC (by omega)) ?_); intros))
  refine region_cls (by kernel_rfl) [w.heap.size] (fun hHeld => ?_)
  refine wpAnyH_take (i := 0) (v := ?z179) (by simp; rfl) (by kernel_rfl) (by kernel_rfl) (by kernel_rfl) (by exact fun _ _ _ h => h) (Or.inl ⟨by rfl, ?yz179⟩) hHeld ?_
  case yz179 => (intro wx hSw; have hSx := Ex1.mk hSw; go_simp; (try with_reducible rfl))
  try simp only [Act.put, List.setIfInBounds_toArray, List.set_cons_zero, List.set_cons_succ]
  refine wpAnyH_take (i := 1) (v := ?z180) (by simp; rfl) (by kernel_rfl) (by kernel_rfl) (by kernel_rfl) (by exact fun _ _ _ h => h) (Or.inl ⟨by rfl, ?yz180⟩) hHeld ?_
  case yz180 => (intro wx hSw; have hSx := Ex1.mk hSw; go_simp; (try with_reducible rfl))
  try simp only [Act.put, List.setIfInBounds_toArray, List.set_cons_zero, List.set_cons_succ]
  refine wpAnyH_take (i := 2) (v := ?z181) (by simp; rfl) (by kernel_rfl) (by kernel_rfl) (by kernel_rfl) (by exact fun _ _ _ h => h) (Or.inl ⟨by rfl, ?yz181⟩) hHeld ?_
  case yz181 => (intro wx hSw; have hSx := Ex1.mk hSw; go_simp; (try with_reducible rfl))
  try simp only [Act.put, List.setIfInBounds_toArray, List.set_cons_zero, List.set_cons_succ]
  refine wpAnyH_ready (rs := [3, 5]) (by kernel_rfl) (by simp) ?_
  refine AllReadyH.cons (by simp; rfl) (fun K hK => ?_) (AllReadyH.cons (by simp; rfl) (fun K hK => ?_) AllReadyH.nil)
  go_simp
  refine hK.out _ _ inferInstance ?_
  clear hHeld hK K
  intro hHeld
  try simp only [Act.put, List.setIfInBounds_toArray, List.set_cons_zero, List.set_cons_succ]
  refine wpAnyH_take (i := 4) (v := ?z182) (by simp; rfl) (by kernel_rfl) (by kernel_rfl) (by kernel_rfl) (by exact fun _ _ _ h => h) (Or.inl ⟨by rfl, ?yz182⟩) hHeld ?_
  case yz182 => (intro wx hSw; have hSx := Ex1.mk hSw; go_simp; (try with_reducible rfl))
  try simp only [Act.put, List.setIfInBounds_toArray, List.set_cons_zero, List.set_cons_succ]
  refine wpAnyH_ready (rs := [5]) (by kernel_rfl) (by simp) ?_
  refine AllReadyH.cons (by simp; rfl) (fun K hK => ?_) AllReadyH.nil
  go_simp
  refine hK.out _ _ inferInstance ?_
  clear hHeld hK K
  intro hHeld
  try simp only [Act.put, List.setIfInBounds_toArray, List.set_cons_zero, List.set_cons_succ]
  refine wpAnyH_take (i := 6) (v := ?z183) (by simp; rfl) (by kernel_rfl) (by kernel_rfl) (by kernel_rfl) (by exact fun _ _ _ h => h) (Or.inl ⟨by rfl, ?yz183⟩) hHeld ?_
  case yz183 => (intro wx hSw; have hSx := Ex1.mk hSw; go_simp; (try with_reducible rfl))
  try simp only [Act.put, List.setIfInBounds_toArray, List.set_cons_zero, List.set_cons_succ]
  refine wpAnyH_done (by kernel_rfl) ?_ _
  clear hHeld
  go_wp2
  refine ret_bt rfl Tryz.underlying29 rfl (by kernel_rfl) rfl rfl rfl ?_
  exact ⟨_, _, rfl, inferInstance, inferInstance, (inferInstance : Kp w _).out⟩
  go_simp
  refine hK.out _ _ inferInstance ?_
  clear hHeld hK K
  intro hHeld
  try simp only [Act.put, List.setIfInBounds_toArray, List.set_cons_zero, List.set_cons_succ]
  refine wpAnyH_ready (rs := [3]) (by kernel_rfl) (by simp) ?_
  refine AllReadyH.cons (by simp; rfl) (fun K hK => ?_) AllReadyH.nil
  go_simp
  refine hK.out _ _ inferInstance ?_
  clear hHeld hK K
  intro hHeld
  try simp only [Act.put, List.setIfInBounds_toArray, List.set_cons_zero, List.set_cons_succ]
  refine wpAnyH_take (i := 4) (v := ?z184) (by simp; rfl) (by kernel_rfl) (by kernel_rfl) (by kernel_rfl) (by exact fun _ _ _ h => h) (Or.inl ⟨by rfl, ?yz184⟩) hHeld ?_
  case yz184 => (intro wx hSw; have hSx := Ex1.mk hSw; go_simp; (try with_reducible rfl))
  try simp only [Act.put, List.setIfInBounds_toArray, List.set_cons_zero, List.set_cons_succ]
  refine wpAnyH_take (i := 6) (v := ?z185) (by simp; rfl) (by kernel_rfl) (by kernel_rfl) (by kernel_rfl) (by exact fun _ _ _ h => h) (Or.inl ⟨by rfl, ?yz185⟩) hHeld ?_
  case yz185 => (intro wx hSw; have hSx := Ex1.mk hSw; go_simp; (try with_reducible rfl))
  try simp only [Act.put, List.setIfInBounds_toArray, List.set_cons_zero, List.set_cons_succ]
  refine wpAnyH_done (by kernel_rfl) ?_ _
  clear hHeld
  go_wp2
  refine ret_bt rfl Tryz.underlying29 rfl (by kernel_rfl) rfl rfl rfl ?_
  exact ⟨_, _, rfl, inferInstance, inferInstance, (inferInstance : Kp w _).out⟩

theorem rparse_00p {w w1 w2 w3 : World} (s : ByteArray) {a0 a1 a2 : Addr} [h0 : Snt w 0 a0 w1] [h1 : Snt w 2 a1 w2] [h2 : Snt w 1 a2 w3] (hne : a1 ≠ a0) (hsz : s.size ≤ 1000000) {zn : Int} {dn : Nat} (hh : hasSlash s.data.toList = true) (he : pKind (iDig (cutL s.data.toList)) = 0 ∧ iVal (cutL s.data.toList) = zn) (hf : pKind (cutR s.data.toList) = 0 ∧ bval (cutR s.data.toList) = dn) (hd : dn ≠ 0) :
    Calls Tryz.prog 67 #[.string s] w (RatRet w (mkRat zn dn) 5000) := by
  have i0 := h0.here
  have i1 := h1.here
  have i2 := h2.here
  clear h0 h1 h2
  have hlen := str_len s
  have hl1 := cutL_len s.data.toList
  have hl2 := cutR_len s.data.toList
  rw [← hlen] at hl1 hl2
  obtain ⟨pl, hpl⟩ : ∃ pl, cutL s.data.toList = pl := ⟨_, rfl⟩
  obtain ⟨ql, hql⟩ : ∃ ql, cutR s.data.toList = ql := ⟨_, rfl⟩
  have HC : Hid (hasSlash s.data.toList = true ∧ cutL s.data.toList = pl ∧ cutR s.data.toList = ql) := ⟨hh, hpl, hql⟩
  rw [hpl] at he hl1
  rw [hql] at hf hl2
  have HE := Lib.hid he
  have HF := Lib.hid hf
  clear hh he hf hlen hpl hql
  go_enter Tryz.func67, Tryz.ntmps67
  go_wp2_with fail
  with_reducible refine Calls.kCut (cutC s _ (by omega)) HC.out ?_
  intro W1 _ x y hx hy
  have hxs : x.size ≤ 1000000000 := by rw [str_len, hx.out]; omega
  have hys : y.size ≤ 1000000000 := by rw [str_len, hy.out]; omega
  have HE2 : Hid (pKind (iDig x.data.toList) = 0 ∧ iVal x.data.toList = zn) := by show _; rw [hx.out]; exact HE.out
  have HF2 : Hid (pKind y.data.toList = 0 ∧ bval y.data.toList = dn) := by show _; rw [hy.out]; exact HF.out
  have hbt : (((nbits dn : Nat) : Int) == 0) = false := by
    rw [beq_eq_false_iff_ne]; have := @nbits0 dn; omega
  go_wp2_with (first
    | (go_at_call 131; (with_reducible refine Calls.kInt (iparse0 inferInstance inferInstance hxs HE2.out) ?_); intros)
    | (go_at_call 132; (with_reducible refine Calls.kNum (parse0 inferInstance inferInstance hys HF2.out) ?_); intros)
    | (go_at_call 18; (with_reducible refine Calls.cS (isNilC _) ?_))
    | (go_at_call 18; (with_reducible refine Calls.cS isSameC ?_))
    | (go_at_call 18; (with_reducible refine Calls.cS (isOtherC (g1 := 2) (g2 := 0) inferInstance inferInstance hne) ?_))
    | (go_at_call 133; (with_reducible refine Calls.cS (bitsC (by omega)) ?_); intros)
    | (go_at_call 134; (with_reducible refine Calls.cF (ofC (by omega)) ?_); intros)
    | (go_at_call 92; (with_reducible refine Calls.cA (rApiC (by omega)) ?_); intros))
  refine ret_bt rfl Tryz.underlying29 rfl (by kernel_rfl) rfl rfl rfl ?_
  exact ⟨_, _, _, _, _, _, _, rfl, CA.cast inferInstance (by rfl) (by omega), (inferInstance : Kp w _).out⟩

theorem rparse_00z {w w1 w2 w3 : World} (s : ByteArray) {a0 a1 a2 : Addr} [h0 : Snt w 0 a0 w1] [h1 : Snt w 2 a1 w2] [h2 : Snt w 1 a2 w3] (hne : a1 ≠ a0) (hsz : s.size ≤ 1000000) {zn : Int} {dn : Nat} (hh : hasSlash s.data.toList = true) (he : pKind (iDig (cutL s.data.toList)) = 0 ∧ iVal (cutL s.data.toList) = zn) (hf : pKind (cutR s.data.toList) = 0 ∧ bval (cutR s.data.toList) = dn) (hd : dn = 0) :
    Calls Tryz.prog 67 #[.string s] w (ErrRet w (.agg #[.bool false, .slice none 0 0, .slice none 0 0]) a2) := by
  have i0 := h0.here
  have i1 := h1.here
  have i2 := h2.here
  clear h0 h1 h2
  have hlen := str_len s
  have hl1 := cutL_len s.data.toList
  have hl2 := cutR_len s.data.toList
  rw [← hlen] at hl1 hl2
  obtain ⟨pl, hpl⟩ : ∃ pl, cutL s.data.toList = pl := ⟨_, rfl⟩
  obtain ⟨ql, hql⟩ : ∃ ql, cutR s.data.toList = ql := ⟨_, rfl⟩
  have HC : Hid (hasSlash s.data.toList = true ∧ cutL s.data.toList = pl ∧ cutR s.data.toList = ql) := ⟨hh, hpl, hql⟩
  rw [hpl] at he hl1
  rw [hql] at hf hl2
  have HE := Lib.hid he
  have HF := Lib.hid hf
  clear hh he hf hlen hpl hql
  subst hd
  go_enter Tryz.func67, Tryz.ntmps67
  go_wp2_with fail
  with_reducible refine Calls.kCut (cutC s _ (by omega)) HC.out ?_
  intro W1 _ x y hx hy
  have hxs : x.size ≤ 1000000000 := by rw [str_len, hx.out]; omega
  have hys : y.size ≤ 1000000000 := by rw [str_len, hy.out]; omega
  have HE2 : Hid (pKind (iDig x.data.toList) = 0 ∧ iVal x.data.toList = zn) := by show _; rw [hx.out]; exact HE.out
  have HF2 : Hid (pKind y.data.toList = 0 ∧ bval y.data.toList = 0) := by show _; rw [hy.out]; exact HF.out
  have hbt : (((nbits 0 : Nat) : Int) == 0) = true := by
    rfl
  go_wp2_with (first
    | (go_at_call 131; (with_reducible refine Calls.kInt (iparse0 inferInstance inferInstance hxs HE2.out) ?_); intros)
    | (go_at_call 132; (with_reducible refine Calls.kNum (parse0 inferInstance inferInstance hys HF2.out) ?_); intros)
    | (go_at_call 18; (with_reducible refine Calls.cS (isNilC _) ?_))
    | (go_at_call 18; (with_reducible refine Calls.cS isSameC ?_))
    | (go_at_call 18; (with_reducible refine Calls.cS (isOtherC (g1 := 2) (g2 := 0) inferInstance inferInstance hne) ?_))
    | (go_at_call 133; (with_reducible refine Calls.cS (bitsC (by omega)) ?_); intros)
    | (go_at_call 134; (with_reducible refine Calls.cF (ofC (by omega)) ?_); intros)
    | (go_at_call 92; (with_reducible refine Calls.cA (rApiC (by omega)) ?_); intros))
  refine region_cls (by kernel_rfl) [w.heap.size] (fun hHeld => ?_)
  refine wpAnyH_take (i := 0) (v := ?z186) (by simp; rfl) (by kernel_rfl) (by kernel_rfl) (by kernel_rfl) (by exact fun _ _ _ h => h) (Or.inl ⟨by rfl, ?yz186⟩) hHeld ?_
  case yz186 => (intro wx hSw; have hSx := Ex1.mk hSw; go_simp; (try with_reducible rfl))
  try simp only [Act.put, List.setIfInBounds_toArray, List.set_cons_zero, List.set_cons_succ]
  refine wpAnyH_take (i := 1) (v := ?z187) (by simp; rfl) (by kernel_rfl) (by kernel_rfl) (by kernel_rfl) (by exact fun _ _ _ h => h) (Or.inl ⟨by rfl, ?yz187⟩) hHeld ?_
  case yz187 => (intro wx hSw; have hSx := Ex1.mk hSw; go_simp; (try with_reducible rfl))
  try simp only [Act.put, List.setIfInBounds_toArray, List.set_cons_zero, List.set_cons_succ]
  refine wpAnyH_take (i := 2) (v := ?z188) (by simp; rfl) (by kernel_rfl) (by kernel_rfl) (by kernel_rfl) (by exact fun _ _ _ h => h) (Or.inl ⟨by rfl, ?yz188⟩) hHeld ?_
  case yz188 => (intro wx hSw; have hSx := Ex1.mk hSw; go_simp; (try with_reducible rfl))
  try simp only [Act.put, List.setIfInBounds_toArray, List.set_cons_zero, List.set_cons_succ]
  refine wpAnyH_ready (rs := [3, 5]) (by kernel_rfl) (by simp) ?_
  refine AllReadyH.cons (by simp; rfl) (fun K hK => ?_) (AllReadyH.cons (by simp; rfl) (fun K hK => ?_) AllReadyH.nil)
  go_simp
  refine hK.out _ _ inferInstance ?_
  clear hHeld hK K
  intro hHeld
  try simp only [Act.put, List.setIfInBounds_toArray, List.set_cons_zero, List.set_cons_succ]
  refine wpAnyH_take (i := 4) (v := ?z189) (by simp; rfl) (by kernel_rfl) (by kernel_rfl) (by kernel_rfl) (by exact fun _ _ _ h => h) (Or.inl ⟨by rfl, ?yz189⟩) hHeld ?_
  case yz189 => (intro wx hSw; have hSx := Ex1.mk hSw; go_simp; (try with_reducible rfl))
  try simp only [Act.put, List.setIfInBounds_toArray, List.set_cons_zero, List.set_cons_succ]
  refine wpAnyH_ready (rs := [5]) (by kernel_rfl) (by simp) ?_
  refine AllReadyH.cons (by simp; rfl) (fun K hK => ?_) AllReadyH.nil
  go_simp
  refine hK.out _ _ inferInstance ?_
  clear hHeld hK K
  intro hHeld
  try simp only [Act.put, List.setIfInBounds_toArray, List.set_cons_zero, List.set_cons_succ]
  refine wpAnyH_take (i := 6) (v := ?z190) (by simp; rfl) (by kernel_rfl) (by kernel_rfl) (by kernel_rfl) (by exact fun _ _ _ h => h) (Or.inl ⟨by rfl, ?yz190⟩) hHeld ?_
  case yz190 => (intro wx hSw; have hSx := Ex1.mk hSw; go_simp; (try with_reducible rfl))
  try simp only [Act.put, List.setIfInBounds_toArray, List.set_cons_zero, List.set_cons_succ]
  refine wpAnyH_done (by kernel_rfl) ?_ _
  clear hHeld
  go_wp2
  refine ret_bt rfl Tryz.underlying29 rfl (by kernel_rfl) rfl rfl rfl ?_
  exact ⟨_, _, rfl, inferInstance, inferInstance, (inferInstance : Kp w _).out⟩
  go_simp
  refine hK.out _ _ inferInstance ?_
  clear hHeld hK K
  intro hHeld
  try simp only [Act.put, List.setIfInBounds_toArray, List.set_cons_zero, List.set_cons_succ]
  refine wpAnyH_ready (rs := [3]) (by kernel_rfl) (by simp) ?_
  refine AllReadyH.cons (by simp; rfl) (fun K hK => ?_) AllReadyH.nil
  go_simp
  refine hK.out _ _ inferInstance ?_
  clear hHeld hK K
  intro hHeld
  try simp only [Act.put, List.setIfInBounds_toArray, List.set_cons_zero, List.set_cons_succ]
  refine wpAnyH_take (i := 4) (v := ?z191) (by simp; rfl) (by kernel_rfl) (by kernel_rfl) (by kernel_rfl) (by exact fun _ _ _ h => h) (Or.inl ⟨by rfl, ?yz191⟩) hHeld ?_
  case yz191 => (intro wx hSw; have hSx := Ex1.mk hSw; go_simp; (try with_reducible rfl))
  try simp only [Act.put, List.setIfInBounds_toArray, List.set_cons_zero, List.set_cons_succ]
  refine wpAnyH_take (i := 6) (v := ?z192) (by simp; rfl) (by kernel_rfl) (by kernel_rfl) (by kernel_rfl) (by exact fun _ _ _ h => h) (Or.inl ⟨by rfl, ?yz192⟩) hHeld ?_
  case yz192 => (intro wx hSw; have hSx := Ex1.mk hSw; go_simp; (try with_reducible rfl))
  try simp only [Act.put, List.setIfInBounds_toArray, List.set_cons_zero, List.set_cons_succ]
  refine wpAnyH_done (by kernel_rfl) ?_ _
  clear hHeld
  go_wp2
  refine ret_bt rfl Tryz.underlying29 rfl (by kernel_rfl) rfl rfl rfl ?_
  exact ⟨_, _, rfl, inferInstance, inferInstance, (inferInstance : Kp w _).out⟩

end Go.Proofs.YtdlnoeegboapkaaGreatDoor
