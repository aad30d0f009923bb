/-
  Contract of integer.Parse.
-/
import Derived.Test.YtnkfbkdcplbgoaaDoorParse
namespace Go.Proofs.YtnkfbkdcplbgoaaDoor
open Go.RowKit

theorem ret_bt {P : Program} {fn : Func} {R : Ending → World → Prop} {a : Act} {W : World} {b : Nat} {p u : Tmp} {ty t : TypeId} {d : TypeDesc} {l l' : List Value} [hb : Bx W b t l] (hr : fn.results = #[.cell p ty, .tmp u])
    (hu : P.underlying ty = some d) (hd : (match d with | .struct _ | .array _ _ => true | _ => false) = true) (hi : (P.info? ty).map (·.size) = some l.length)
    (hp : a.tmps.getD p undef = .pointer (some ⟨b, 0, none⟩)) (hdf : a.defers = []) (hl : l = l') (hR : R (.returned (.tuple #[.agg l'.toArray, a.tmps.getD u undef])) W) : bodyPost P fn R .ret a W := by
  subst hl
  exact ret_ct hr hp (loadVar_at W b ty l d hu hd hi (fun j hj => by rw [cell_bx, List.getElem?_eq_getElem hj])) hdf hR
theorem parse1 {w w1 w2 : World} {s : ByteArray} {a0 a1 : Addr} (h0 : Snt w 0 a0 w1) (h1 : Snt w 1 a1 w2) (hsz : s.size ≤ 1000000000) (hk : pKind s.data.toList = 1) :
    Calls Tryd.prog 10 #[.string s] w (ErrRet w (.slice none 0 0) a0) := (parse_any s hsz).mono fun e w' h => by
  rcases h with h | h | h
  · exact h.2
  · rw [hk] at h; exact absurd h.1 (by decide)
  · rw [hk] at h; exact absurd h.1 (by decide)
theorem parse2 {w w1 w2 : World} {s : ByteArray} {a0 a1 : Addr} (h0 : Snt w 0 a0 w1) (h1 : Snt w 1 a1 w2) (hsz : s.size ≤ 1000000000) (hk : pKind s.data.toList = 2) :
    Calls Tryd.prog 10 #[.string s] w (ErrRet w (.slice none 0 0) a1) := (parse_any s hsz).mono fun e w' h => by
  rcases h with h | h | h
  · rw [hk] at h; exact absurd h.1 (by decide)
  · exact h.2
  · rw [hk] at h; exact absurd h.1 (by decide)
theorem parse0 {w w1 w2 : World} {s : ByteArray} {a0 a1 : Addr} (h0 : Snt w 0 a0 w1) (h1 : Snt w 1 a1 w2) (hsz : s.size ≤ 1000000000) {m : Nat} (hk : pKind s.data.toList = 0 ∧ bval s.data.toList = m) :
    Calls Tryd.prog 10 #[.string s] w (NumRet w m 4097) := (parse_any s hsz).mono fun e w' h => by
  obtain ⟨hk, rfl⟩ := hk
  rcases h with h | h | h
  · rw [hk] at h; exact absurd h.1 (by decide)
  · rw [hk] at h; exact absurd h.1 (by decide)
  · exact h.2
theorem pKind_cases (l : List UInt8) : pKind l = 1 ∨ pKind l = 2 ∨ pKind l = 0 := by
  unfold pKind
  split
  · exact .inl rfl
  · split
    · exact .inr (.inl rfl)
    · exact .inr (.inr rfl)
/-- The sign of an integer's text, its digits, its value. -/
def iNeg (l : List UInt8) : Bool := match l with | b :: _ => decide (b = 45) | [] => false
def iDig (l : List UInt8) : List UInt8 := if iNeg l = true then l.drop 1 else l
def iVal (l : List UInt8) : Int := sgn (iNeg l) (bval (iDig l))
def IntRet (w : World) (z : Int) (k : Nat) (e : Ending) (w' : World) : Prop :=
  ∃ g a l c, e = .returned (.tuple #[.agg #[.bool g, .slice a l c], .nilIface]) ∧ CZ w' (.agg #[.bool g, .slice a l c]) z k ∧ Below w.heap.size w w'
theorem Calls.kInt {P : Program} {f : FuncId} {args : Array Value} {w : World} {z : Int} {k : Nat} {K : Ending → World → Prop} (h : Calls P f args w (IntRet w z k))
    (hK : ∀ w' [Kp1 w w'] g a l c [CZ w' (.agg #[.bool g, .slice a l c]) z k], K (.returned (.tuple #[.agg #[.bool g, .slice a l c], .nilIface])) w') : Calls P f args w K := by
  refine h.mono ?_
  rintro e w' ⟨g, a, l, c, rfl, hx, hb⟩
  exact @hK w' ⟨hb⟩ g a l c hx
/-- What integer.Parse returns. -/
def IParsePost (w : World) (l : List UInt8) (a0 a1 : Addr) (e : Ending) (w' : World) : Prop :=
  (pKind (iDig l) = 1 ∧ ErrRet w (.agg #[.bool false, .slice none 0 0]) a0 e w') ∨ (pKind (iDig l) = 2 ∧ ErrRet w (.agg #[.bool false, .slice none 0 0]) a1 e w') ∨ (pKind (iDig l) = 0 ∧ IntRet w (iVal l) 4097 e w')
set_option maxRecDepth 100000 in
set_option maxHeartbeats 4000000 in
set_option synthInstance.maxSize 100000 in
set_option synthInstance.maxHeartbeats 1000000 in
theorem iparse_any {w w1 w2 : World} (s : ByteArray) {a0 a1 : Addr} [h0 : Snt w 0 a0 w1] [h1 : Snt w 1 a1 w2] (hsz : s.size ≤ 1000000000) :
    Calls Tryd.prog 21 #[.string s] w (IParsePost w s.data.toList a0 a1) := by
  have i0 := h0.here
  have i1 := h1.here
  clear h0 h1
  have hlen := str_len s
  by_cases hn : iNeg s.data.toList = true
  · obtain ⟨t, ht⟩ : ∃ t, s.data.toList = 45 :: t := by
      cases hx : s.data.toList with
      | nil => rw [hx] at hn; cases hn
      | cons b t =>
        rw [hx] at hn
        exact ⟨t, by rw [of_decide_eq_true hn]⟩
    have hx : (s.extract 0 1).toList = [45] := by rw [Lib.extract_toList, ht]; rfl
    have hs1 : 1 ≤ s.size := by rw [hlen, ht]; simp
    have hdr : (s.extract 1 s.size).data.toList = iDig s.data.toList := by
      rw [Lib.extract_data, iDig, if_pos hn, List.take_of_length_le (by rw [List.length_drop, ← hlen]; omega)]
    have hds : (s.extract 1 s.size).size ≤ 1000000000 := by rw [str_len, hdr, iDig, if_pos hn, List.length_drop, ← hlen]; omega
    have HV : Hid (iVal s.data.toList = sgn true (bval (iDig s.data.toList))) := by show _ = _; unfold iVal; rw [hn]
    unfold IParsePost
    rw [← hdr]
    rw [← hdr] at HV
    clear hn ht hlen hdr
    generalize iVal s.data.toList = z at *
    rcases pKind_cases (s.extract 1 s.size).data.toList with hk | hk | hk
    · have HK := Lib.hid hk
      clear hk
      go_enter Tryd.func21, Tryd.ntmps21
      go_wp2_with (first
        | (go_at_call 10; (with_reducible refine Calls.kErr (parse1 inferInstance inferInstance hds HK.out) ?_); intros)
        | (go_at_call 56; (with_reducible refine Calls.cSg signedC ?_); intros)
        | go_in)
      refine ret_bt rfl Tryd.underlying45 rfl (by kernel_rfl) rfl rfl rfl ?_
      exact .inl ⟨HK.out, _, _, rfl, inferInstance, inferInstance, (inferInstance : Kp w _).out⟩
    · have HK := Lib.hid hk
      clear hk
      go_enter Tryd.func21, Tryd.ntmps21
      go_wp2_with (first
        | (go_at_call 10; (with_reducible refine Calls.kErr (parse2 inferInstance inferInstance hds HK.out) ?_); intros)
        | (go_at_call 56; (with_reducible refine Calls.cSg signedC ?_); intros)
        | go_in)
      refine ret_bt rfl Tryd.underlying45 rfl (by kernel_rfl) rfl rfl rfl ?_
      exact .inr (.inl ⟨HK.out, _, _, rfl, inferInstance, inferInstance, (inferInstance : Kp w _).out⟩)
    · have HK := Lib.hid hk
      clear hk
      go_enter Tryd.func21, Tryd.ntmps21
      go_wp2_with (first
        | (go_at_call 10; (with_reducible refine Calls.kNum (parse0 inferInstance inferInstance hds ⟨HK.out, rfl⟩) ?_); intros)
        | (go_at_call 56; (with_reducible refine Calls.cSg signedC ?_); intros)
        | go_in)
      refine ret_bt rfl Tryd.underlying45 rfl (by kernel_rfl) rfl rfl rfl ?_
      exact .inr (.inr ⟨HK.out, _, _, _, _, rfl, CZ.cast inferInstance HV.out.symm (Nat.le_refl _), (inferInstance : Kp w _).out⟩)
  · have hn' : iNeg s.data.toList = false := by simpa using hn
    have hdr : iDig s.data.toList = s.data.toList := by unfold iDig; rw [if_neg hn]
    have HV : Hid (iVal s.data.toList = sgn false (bval (iDig s.data.toList))) := by show _ = _; unfold iVal; rw [hn']
    have hcase : s.size = 0 ∨ (1 ≤ s.size ∧ ∃ b : UInt8, (s.extract 0 1).toList = [b] ∧ (b == 45) = false) := by
      rw [hlen, Lib.extract_toList]
      cases hx : s.data.toList with
      | nil => exact .inl rfl
      | cons b t =>
        rw [hx] at hn'
        exact .inr ⟨by simp, b, rfl, beq_eq_false_iff_ne.2 (of_decide_eq_false hn')⟩
    have hds := hsz
    unfold IParsePost
    rw [hdr]
    rw [hdr] at HV
    clear hn hn' hlen hdr
    generalize iVal s.data.toList = z at *
    rcases hcase with hx | ⟨hs1, b, hx, hb⟩
    all_goals
      rcases pKind_cases s.data.toList with hk | hk | hk
      · have HK := Lib.hid hk
        clear hk
        go_enter Tryd.func21, Tryd.ntmps21
        go_wp2_with (first
          | (go_at_call 10; (with_reducible refine Calls.kErr (parse1 inferInstance inferInstance hds HK.out) ?_); intros)
          | (go_at_call 56; (with_reducible refine Calls.cSg signedC ?_); intros)
          | go_in)
        refine ret_bt rfl Tryd.underlying45 rfl (by kernel_rfl) rfl rfl rfl ?_
        exact .inl ⟨HK.out, _, _, rfl, inferInstance, inferInstance, (inferInstance : Kp w _).out⟩
      · have HK := Lib.hid hk
        clear hk
        go_enter Tryd.func21, Tryd.ntmps21
        go_wp2_with (first
          | (go_at_call 10; (with_reducible refine Calls.kErr (parse2 inferInstance inferInstance hds HK.out) ?_); intros)
          | (go_at_call 56; (with_reducible refine Calls.cSg signedC ?_); intros)
          | go_in)
        refine ret_bt rfl Tryd.underlying45 rfl (by kernel_rfl) rfl rfl rfl ?_
        exact .inr (.inl ⟨HK.out, _, _, rfl, inferInstance, inferInstance, (inferInstance : Kp w _).out⟩)
      · have HK := Lib.hid hk
        clear hk
        go_enter Tryd.func21, Tryd.ntmps21
        go_wp2_with (first
          | (go_at_call 10; (with_reducible refine Calls.kNum (parse0 inferInstance inferInstance hds ⟨HK.out, rfl⟩) ?_); intros)
          | (go_at_call 56; (with_reducible refine Calls.cSg signedC ?_); intros)
          | go_in)
        refine ret_bt rfl Tryd.underlying45 rfl (by kernel_rfl) rfl rfl rfl ?_
        exact .inr (.inr ⟨HK.out, _, _, _, _, rfl, CZ.cast inferInstance HV.out.symm (Nat.le_refl _), (inferInstance : Kp w _).out⟩)
end Go.Proofs.YtnkfbkdcplbgoaaDoor
