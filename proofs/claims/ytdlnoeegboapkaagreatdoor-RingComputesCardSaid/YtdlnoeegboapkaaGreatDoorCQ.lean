/-
  Texts of this claim, joined: Rg5, Rg6, Rg8.
-/
import Derived.Test.YtdlnoeegboapkaaGreatDoorCP
import Derived.Test.YtdlnoeegboapkaaGreatDoorCO
import Derived.Deep.CutRange
import Derived.Deep.CutBlock
/- Errors of geo.RingOf; ring.Check; the area. printed by a small program (mkrg5.py). -/
namespace Go.Proofs.YtdlnoeegboapkaaGreatDoor
open Go.RowKit
set_option maxRecDepth 100000
set_option maxHeartbeats 40000000
set_option synthInstance.maxSize 100000
set_option synthInstance.maxHeartbeats 1000000
set_option linter.unusedVariables false
attribute [local go_sem] Oper.semAt_some

/-- An error of a kind is returned, behind another result. -/
def RErr (w : World) (v : Value) (a : Addr) (e : Ending) (w' : World) : Prop :=
  ∃ b s, e = .returned (.tuple #[v, .iface 114 (.pointer (some ⟨b, 0, none⟩))]) ∧ Bx w' b 116 [.iface 365 (.pointer (some a)), .int .i64 0, .int .i64 0, .string s] ∧ Below w.heap.size w w'
theorem Calls.cRErr {P : Program} {f : FuncId} {args : Array Value} {w : World} {v : Value} {a : Addr} {K : Ending → World → Prop} (h : Calls P f args w (RErr w v a))
    (hK : ∀ w' [Kp1 w w'] b s [Bx w' b 116 [.iface 365 (.pointer (some a)), .int .i64 0, .int .i64 0, .string s]], K (.returned (.tuple #[v, .iface 114 (.pointer (some ⟨b, 0, none⟩))])) w') : Calls P f args w K := by
  refine h.mono ?_
  rintro e w' ⟨b, s, rfl, hx, hb⟩
  exact @hK w' ⟨hb⟩ b s hx
theorem RErr.fin {w w' : World} {v : Value} {a : Addr} {b : Nat} {s : ByteArray} [k : Kp w w'] [h : Bx w' b 116 [.iface 365 (.pointer (some a)), .int .i64 0, .int .i64 0, .string s]] : RErr w v a (.returned (.tuple #[v, .iface 114 (.pointer (some ⟨b, 0, none⟩))])) w' := ⟨b, s, rfl, h, k.out⟩
/-- An error of a kind is returned. -/
def OErr (w : World) (a : Addr) (e : Ending) (w' : World) : Prop :=
  ∃ b s, e = .returned (.iface 114 (.pointer (some ⟨b, 0, none⟩))) ∧ Bx w' b 116 [.iface 365 (.pointer (some a)), .int .i64 0, .int .i64 0, .string s] ∧ Below w.heap.size w w'
theorem Calls.cOErr {P : Program} {f : FuncId} {args : Array Value} {w : World} {a : Addr} {K : Ending → World → Prop} (h : Calls P f args w (OErr w a))
    (hK : ∀ w' [Kp1 w w'] b s [Bx w' b 116 [.iface 365 (.pointer (some a)), .int .i64 0, .int .i64 0, .string s]], K (.returned (.iface 114 (.pointer (some ⟨b, 0, none⟩)))) w') : Calls P f args w K := by
  refine h.mono ?_
  rintro e w' ⟨b, s, rfl, hx, hb⟩
  exact @hK w' ⟨hb⟩ b s hx
theorem OErr.fin {w w' : World} {a : Addr} {b : Nat} {s : ByteArray} [k : Kp w w'] [h : Bx w' b 116 [.iface 365 (.pointer (some a)), .int .i64 0, .int .i64 0, .string s]] : OErr w a (.returned (.iface 114 (.pointer (some ⟨b, 0, none⟩)))) w' := ⟨b, s, rfl, h, k.out⟩
theorem ringOfLimit {w w1 : World} {a : Option Addr} {n c : Nat} {aL : Addr} [h0 : Snt w 2 aL w1] (hn : 4096 < n) :
    Calls Tryz.prog 77 #[.slice a n c] w (RErr w (.slice none 0 0) aL) := by
  have i0 := h0.here
  clear h0
  have hn' : 4096 < (n : Int) := by omega
  go_enter Tryz.func77, Tryz.ntmps77
  go_wp2_with fail
  refine nmwp (fun W4 => Kp w W4 ∧ Bx W4 w.heap.size 131 [.slice none 0 0] ∧ Bx W4 (w.heap.size + 1) 36 [.nilIface] ∧ Snt W4 2 aL w) ⟨inferInstance, inferInstance, inferInstance, inferInstance⟩ ?_
  intro W4 ⟨k1, k2, k3, k4⟩
  refine rgn [w.heap.size, w.heap.size + 1] [] fun hHeld => ?_
  refine tk 0 hHeld ?_
  refine tk 1 hHeld ?_
  refine wpAnyT_ready (rs := [2, 4]) (by kernel_rfl) (by simp) ?_
  refine AllT.cons (by simp; rfl) (fun K hK => ?_) (AllT.cons (by simp; rfl) (fun K hK => ?_) AllT.nil)
  go_simp
  refine hd hK ?_
  clear hHeld hK K
  intro hHeld
  refine tk 3 hHeld ?_
  refine st 4 fun K hK => ?_
  go_simp
  refine hd hK ?_
  clear hHeld hK K
  intro hHeld
  refine st 5 fun K hK => ?_
  go_simp
  refine hd hK ?_
  clear hHeld hK K
  intro hHeld
  refine dn ?_
  clear hHeld
  go_wp2
  refine ret_se rfl Tryz.underlying131 rfl Tryz.underlying36 rfl rfl rfl rfl ?_
  exact RErr.fin
  go_simp
  refine hd hK ?_
  clear hHeld hK K
  intro hHeld
  refine st 2 fun K hK => ?_
  go_simp
  refine hd hK ?_
  clear hHeld hK K
  intro hHeld
  refine tk 3 hHeld ?_
  refine st 5 fun K hK => ?_
  go_simp
  refine hd hK ?_
  clear hHeld hK K
  intro hHeld
  refine dn ?_
  clear hHeld
  go_wp2
  refine ret_se rfl Tryz.underlying131 rfl Tryz.underlying36 rfl rfl rfl rfl ?_
  exact RErr.fin
theorem rHalfC {w : World} {n1 d1 : Int} {p1 : Option Addr} {x : Rat} {k1 : Nat} [h1 : CF w (.agg #[.int .i64 n1, .int .i64 d1, .pointer p1]) x k1] (b : k1 ≤ 250000) :
    Calls Tryz.prog 154 #[.agg #[.int .i64 n1, .int .i64 d1, .pointer p1]] w (CFRet w (x / 2) (k1 + 4)) := by
  have ih : ∀ W, CF W (.agg #[.int .i64 1, .int .i64 1, .pointer none]) (mkRat 1 2) 2 := fun W => CF.small (by decide +kernel) (by decide +kernel) (by omega) (by omega) (by omega) (by omega)
  have ix := ih w
  go_enter Tryz.func154, Tryz.ntmps154
  go_wp2_with (first
    | (go_at_call 213; (with_reducible refine Calls.cF (rMulC (by omega)) ?_); intros))
  refine ret_bx rfl Tryz.underlying147 rfl (by kernel_rfl) rfl rfl rfl ?_
  exact CFRet.fin (by rw [show mkRat 1 2 = (2 : Rat)⁻¹ by decide +kernel, Rat.div_def]) (by omega)
theorem geoAreaC {w w0 : World} {a : Option Addr} {n c : Nat} {V : List FV} {L : List (Rat × Rat)} {k : Nat} [hs : Sl w (.slice a n c) V.length (rowF V) w0] [hp : PsF w V L k] (b : k ≤ 5000) (hV : V.length ≤ 10) :
    Calls Tryz.prog 91 #[.slice a n c] w (CFRet w (areaL L) (40 * k + 120)) := by
  obtain rfl := hs.len
  have hlen := Lib.hid hp.len
  go_enter Tryz.func91, Tryz.ntmps91
  go_wp2_with fail
  go_loopw [8] (fun i wr => ∃ (q kq : Nat) (ns ds : Int) (ps : Option Addr), i = .int .i64 (q : Int) ∧ q ≤ V.length ∧ Bx wr w.heap.size 147 [.int .i64 0, .int .i64 0, .pointer none] ∧ Bx wr (w.heap.size + 1) 147 [.int .i64 ns, .int .i64 ds, .pointer ps] ∧ CF wr (.agg #[.int .i64 ns, .int .i64 ds, .pointer ps]) (sumC L q) kq ∧ Hid (kq ≤ 2 + q * (4 * k + 10)) ∧ Kp w wr) (fun i _ => V.length - (intOf i).toNat)
  case atStart => exact ⟨0, 2, 0, 0, none, rfl, by omega, inferInstance, inferInstance, CF.zero (Nat.le_refl _), Lib.hid (by omega), inferInstance⟩
  case round =>
    obtain ⟨q, kq, ns, ds, ps, rfl, hq, i1, i2, i3, hkq, i4⟩ := hrel
    have kw := Kp1.mk i4.out
    by_cases hlt : q < V.length
    · obtain ⟨g, rfl, hA⟩ := hs.form (by omega)
      have hlt' : (q : Int) < V.length := by omega
      have lq : LtN q V.length := ⟨hlt⟩
      have ew : IntKind.i64.wrap ((q : Int) + 1) = (q : Int) + 1 := wr_in (by omega) (by omega)
      obtain ⟨m, hm0⟩ : ∃ m, (q + 1) % V.length = m := ⟨_, rfl⟩
      have hm : m < V.length := by rw [← hm0]; exact Nat.mod_lt _ (by omega)
      have lm : LtN m V.length := ⟨hm⟩
      have hm' : (m : Int) < V.length := by omega
      have er : ((q : Int) + 1).tmod (V.length : Int) = (m : Int) := by
        rw [← hm0, show (q : Int) + 1 = ((q + 1 : Nat) : Int) by omega]; exact (Int.ofNat_tmod _ _).symm
      have HM := Lib.hid hm0
      clear hm0
      have hz : ¬ ((V.length : Int) = 0) := by omega
      have hz2 : ¬ (V.length = 0) := by omega
      have hkq2 : kq ≤ 2 + q * (4 * k + 10) := hkq.out
      have hkq3 : q * (4 * k + 10) ≤ 10 * (4 * k + 10) := Nat.mul_le_mul_right _ (by omega)
      have HK : kq ≤ 2 + 10 * (4 * k + 10) := by omega
      clear hkq2 hkq3
      go_wp2_with fail
      refine rgn [] [12] fun hHeld => ?_
      refine tk 0 hHeld ?_
      refine tk 1 hHeld ?_
      refine tk 2 hHeld ?_
      refine tk 3 hHeld ?_
      refine tk 4 hHeld ?_
      refine tk 5 hHeld ?_
      refine tk 6 hHeld ?_
      refine tk 7 hHeld ?_
      refine tk 8 hHeld ?_
      refine tk 9 hHeld ?_
      refine st 10 fun K hK => ?_
      go_simp
      (with_reducible refine Calls.cF (ptCrossC (by omega)) ?_); intros
      refine hd hK ?_
      clear hHeld hK K
      intro hHeld
      refine st 11 fun K hK => ?_
      go_simp
      (with_reducible refine Calls.cF (rAddC (by omega)) ?_); intros
      refine hd hK ?_
      clear hHeld hK K
      intro hHeld
      refine st 12 fun K hK => ?_
      go_simp
      refine hdT hK ?_
      clear hK K
      refine dn ?_
      clear hHeld
      go_wp2
      go_roundw
      case rel => exact ⟨q + 1, kq + (k + k + k + k + 7) + 3, _, _, _, by go_num, by omega, inferInstance, inferInstance, CF.cast inferInstance (by rw [sumC_succ (by have := hlen.out; omega), ← hlen.out, HM.out]; rfl) (Nat.le_refl _), Lib.hid (by have h1 := hkq.out; have h2 := Nat.succ_mul q (4 * k + 10); rw [Nat.succ_eq_add_one] at h2; rw [h2]; generalize q * (4 * k + 10) = X at *; omega), inferInstance⟩
      case measure => simp [intOf]; omega
    · obtain rfl : q = V.length := by omega
      have hkq2 : kq ≤ 2 + V.length * (4 * k + 10) := hkq.out
      have hkq3 : V.length * (4 * k + 10) ≤ 10 * (4 * k + 10) := Nat.mul_le_mul_right _ hV
      go_wp2_with (first
        | (go_at_call 154; (with_reducible refine Calls.cF (rHalfC (by omega)) ?_); intros))
      refine ret_bx rfl Tryz.underlying147 rfl (by kernel_rfl) rfl rfl rfl ?_
      exact CFRet.fin (by rw [areaL, ← hlen.out]) (by omega)
end Go.Proofs.YtdlnoeegboapkaaGreatDoor

/- Too few points; ring.Check, ring.Area; the sanity check of the laws of layer 9. printed by a small program (mkrg6.py). -/
namespace Go.Proofs.YtdlnoeegboapkaaGreatDoor
open Go.RowKit
set_option maxRecDepth 100000
set_option maxHeartbeats 40000000
set_option synthInstance.maxSize 100000
set_option synthInstance.maxHeartbeats 1000000
set_option linter.unusedVariables false

theorem ringOfThree {w w0 : World} {a : Option Addr} {n c : Nat} {V : List AV} {L : List (Rat × Rat)} {k : Nat} [hs : Sl w (.slice a n c) V.length (rowA V) w0] [hp : PsA w V L k] {w1 : World} {aR : Addr} [hR0 : Snt w 3 aR w1] (b : k ≤ 19000) (hV : V.length ≤ 4096) (hD : dsc L L.length < 3) :
    Calls Tryz.prog 77 #[.slice a n c] w (RErr w (.slice none 0 0) aR) := by
  obtain rfl := hs.len
  have hlen := Lib.hid hp.len
  have HD := Lib.hid hD
  clear hD
  have hR := hR0.here
  clear hR0
  have hno : ¬ (4096 < (V.length : Int)) := by omega
  go_enter Tryz.func77, Tryz.ntmps77
  go_wp2_with fail
  go_loopw [21, 4] (fun i o wr => ∃ (q : Nat) (U : List FV), i = .int .i64 (q : Int) ∧ q ≤ V.length ∧ Rn wr o 152 6 U.length (rowF U) (w.heap.size + 1 + 1) wr ∧ Hid (U.length = q) ∧ PsF wr U (L.take q) (k + 2) ∧ Bx wr w.heap.size 131 [.slice none 0 0] ∧ Bx wr (w.heap.size + 1) 36 [.nilIface] ∧ Kp w wr) (fun i _ _ => V.length - (intOf i).toNat)
  case atStart => exact ⟨0, [], rfl, by omega, Rn.nil (by simp), Lib.hid rfl, PsF.nil, inferInstance, inferInstance, inferInstance⟩
  case round =>
    obtain ⟨q, U, rfl, hq, i1, hU, i2, i3, i4, i5⟩ := hrel
    have kw := Kp1.mk i5.out
    by_cases hlt : q < V.length
    · obtain ⟨g, rfl, hA⟩ := hs.form (by omega)
      have hlt' : (q : Int) < V.length := by omega
      have lq : LtN q V.length := ⟨hlt⟩
      have ew : IntKind.i64.wrap ((q : Int) + 1) = (q : Int) + 1 := wr_in (by omega) (by omega)
      go_wp2_with (first
        | (go_at_call 142; (with_reducible refine Calls.cE (gNormalA (by omega)) ?_); intros)
        | (go_at_call 123; (with_reducible refine Calls.cPF (ptOfC (by omega)) ?_); intro w1 _ nx dx px ny dy py i7 i8)
        | (at_builtin; go_loud (refine app_rn1 (v := u4) rfl (.tmp 37) (.tmp 40) 131 rfl Tryz.underlying131 info_f rfl (by decide) (by decide) (by decide) inferInstance rfl (rowF_nd _) rfl (by rfl) ?h1 ?h2 (by first | omega | (have := hU.out; omega)) ?_); (case h1 => exact FV.one ⟨_, _, _, _, _, _⟩); (case h2 => exact FV.nd ⟨_, _, _, _, _, _⟩); intro g2 c2 w2 i9 i10 i11))
      go_roundw
      case rel => exact ⟨q + 1, U ++ [⟨nx, dx, px, ny, dy, py⟩], by go_num, by omega, Rn.cast2 (inferInstance) (by simp) (by rw [rowF_snoc]; rfl), Lib.hid (by rw [List.length_append, hU.out]; rfl), by rw [take_pg (by have := hlen.out; omega)]; exact PsF.add (by first | omega | simp) (by first | omega | simp), inferInstance, inferInstance, inferInstance⟩
      case measure => simp [intOf]; omega
    · obtain rfl : q = V.length := by omega
      rw [List.take_of_length_le (by have := hlen.out; omega)] at i2
      have hUl : Hid (U.length = L.length) := Lib.hid (hU.out.trans hlen.out)
      have hU4 : U.length ≤ 4096 := by rw [hU.out]; exact hV
      clear hU hs hq hlt
      obtain ⟨a3, c3, rfl⟩ := i1.slice
      go_wp2_with fail
      go_loopw [45, 7] (fun i d wx => ∃ (q m : Nat), i = .int .i64 (q : Int) ∧ q ≤ U.length ∧ d = .int .i64 (m : Int) ∧ Hid (min 3 (dsc L q) = m) ∧ Kp wr wx) (fun i _ _ => U.length - (intOf i).toNat)
      case atStart => exact ⟨0, 0, rfl, by omega, rfl, Lib.hid rfl, inferInstance⟩
      case round =>
        obtain ⟨q, m, rfl, hq, rfl, hm, j1⟩ := hrel
        have kx := Kp1.mk j1.out
        have hm3 : m ≤ 3 := by rw [← hm.out]; omega
        by_cases hlt : q < U.length
        · have isl : Sl wr (.slice a3 U.length c3) U.length (rowF U) _ := inferInstance
          obtain ⟨g2, rfl, hA2⟩ := isl.form (by omega)
          have hlt' : (q : Int) < U.length := by omega
          have lq : LtN q U.length := ⟨hlt⟩
          have ew : IntKind.i64.wrap ((q : Int) + 1) = (q : Int) + 1 := wr_in (by omega) (by omega)
          have em : IntKind.i64.wrap ((m : Int) + 1) = (m : Int) + 1 := wr_in (by omega) (by omega)
          by_cases h3 : m < 3
          · have h3' : (m : Int) < 3 := by omega
            by_cases hn : pg L q ∈ L.take q
            · go_wp2_with (first
                | (go_at_call 144; go_loud ((with_reducible refine Calls.cFirst (firstC (V := U) (by omega) (by omega) ⟨q, hlt, rfl⟩) ?_); intro w1 _ m1 hm1); have hne : ¬ ((m1 : Int) = (q : Int)) := fun e => (FirstAt.new (by rw [← hUl.out]; exact hlt) hm1).1 (by omega) hn; have hne2 : ((m1 : Int) == (q : Int)) = false := beq_false_of_ne hne; clear hm1))
              go_roundw
              case rel => exact ⟨q + 1, m, by go_num, by omega, rfl, Lib.hid (by have h2 := hm.out; simp only [dsc, if_pos hn]; omega), inferInstance⟩
              case measure => simp [intOf]; omega
            · go_wp2_with (first
                | (go_at_call 144; (with_reducible refine Calls.cFirst (firstC (V := U) (by omega) (by omega) ⟨q, hlt, rfl⟩) ?_); intro w1 _ m1 hm1; obtain rfl : m1 = q := (FirstAt.new (by rw [← hUl.out]; exact hlt) hm1).2 hn; clear hm1))
              go_roundw
              case rel => exact ⟨m1 + 1, m + 1, by go_num, by omega, by go_num, Lib.hid (by have h2 := hm.out; simp only [dsc, if_neg hn]; omega), inferInstance⟩
              case measure => simp [intOf]; omega
          · obtain rfl : m = 3 := by omega
            go_wp2_with fail
            go_roundw
            case rel => exact ⟨q + 1, 3, by go_num, by omega, rfl, Lib.hid (by have h2 := hm.out; have := dsc_mono L (show q ≤ q + 1 by omega); omega), inferInstance⟩
            case measure => simp [intOf]; omega
        · obtain rfl : q = U.length := by omega
          have h3 : m < 3 := by have h2 := HD.out; rw [← hUl.out] at h2; have := hm.out; omega
          have h3' : (m : Int) < 3 := by omega
          go_wp2_with fail
          refine rgn [w.heap.size, w.heap.size + 1] [] fun hHeld => ?_
          refine tk 0 hHeld ?_
          refine tk 1 hHeld ?_
          refine wpAnyT_ready (rs := [2, 4]) (by kernel_rfl) (by simp) ?_
          refine AllT.cons (by simp; rfl) (fun K hK => ?_) (AllT.cons (by simp; rfl) (fun K hK => ?_) AllT.nil)
          go_simp
          refine hd hK ?_
          clear hHeld hK K
          intro hHeld
          refine tk 3 hHeld ?_
          refine st 4 fun K hK => ?_
          go_simp
          refine hd hK ?_
          clear hHeld hK K
          intro hHeld
          refine st 5 fun K hK => ?_
          go_simp
          refine hd hK ?_
          clear hHeld hK K
          intro hHeld
          refine dn ?_
          clear hHeld
          go_wp2
          refine ret_se rfl Tryz.underlying131 rfl Tryz.underlying36 rfl rfl rfl rfl ?_
          exact RErr.fin
          go_simp
          refine hd hK ?_
          clear hHeld hK K
          intro hHeld
          refine st 2 fun K hK => ?_
          go_simp
          refine hd hK ?_
          clear hHeld hK K
          intro hHeld
          refine tk 3 hHeld ?_
          refine st 5 fun K hK => ?_
          go_simp
          refine hd hK ?_
          clear hHeld hK K
          intro hHeld
          refine dn ?_
          clear hHeld
          go_wp2
          refine ret_se rfl Tryz.underlying131 rfl Tryz.underlying36 rfl rfl rfl rfl ?_
          exact RErr.fin
theorem checkOk {w w0 : World} {a : Option Addr} {n c : Nat} {V : List AV} {L : List (Rat × Rat)} {k : Nat} [hs : Sl w (.slice a n c) V.length (rowA V) w0] [hp : PsA w V L k] (b : k ≤ 19000) (hV : V.length ≤ 4096) (hR : RingOK L) :
    Calls Tryz.prog 23 #[.slice a n c] w (fun e w' => e = .returned .nilIface ∧ Below w.heap.size w w') := by
  go_enter Tryz.func23, Tryz.ntmps23
  go_wp2_with (first
    | (go_at_call 77; (with_reducible refine Calls.cPsFEr (ringOfOk b hV hR) ?_); intros))
  go_ret
  exact E.fin rfl
theorem checkLimit {w w1 : World} {a : Option Addr} {n c : Nat} {aL : Addr} [h0 : Snt w 2 aL w1] (hn : 4096 < n) :
    Calls Tryz.prog 23 #[.slice a n c] w (OErr w aL) := by
  go_enter Tryz.func23, Tryz.ntmps23
  go_wp2_with (first
    | (go_at_call 77; (with_reducible refine Calls.cRErr (ringOfLimit hn) ?_); intros))
  go_ret
  exact OErr.fin
theorem checkThree {w w0 : World} {a : Option Addr} {n c : Nat} {V : List AV} {L : List (Rat × Rat)} {k : Nat} [hs : Sl w (.slice a n c) V.length (rowA V) w0] [hp : PsA w V L k] {w1 : World} {aR : Addr} [hR0 : Snt w 3 aR w1] (b : k ≤ 19000) (hV : V.length ≤ 4096) (hD : dsc L L.length < 3) :
    Calls Tryz.prog 23 #[.slice a n c] w (OErr w aR) := by
  go_enter Tryz.func23, Tryz.ntmps23
  go_wp2_with (first
    | (go_at_call 77; (with_reducible refine Calls.cRErr (ringOfThree b hV hD) ?_); intros))
  go_ret
  exact OErr.fin
/-- A number and no error. -/
def AErRet (w : World) (x : Rat) (k : Nat) (e : Ending) (w' : World) : Prop := ∃ g a l c aa ll cc, e = .returned (.tuple #[.agg #[.bool g, .slice a l c, .slice aa ll cc], .nilIface]) ∧ CA w' (.agg #[.bool g, .slice a l c, .slice aa ll cc]) x k ∧ Below w.heap.size w w'
theorem Calls.cAEr {P : Program} {f : FuncId} {args : Array Value} {w : World} {x : Rat} {k : Nat} {K : Ending → World → Prop} (h : Calls P f args w (AErRet w x k))
    (hK : ∀ w' [Kp1 w w'] g a l c aa ll cc [CA w' (.agg #[.bool g, .slice a l c, .slice aa ll cc]) x k], K (.returned (.tuple #[.agg #[.bool g, .slice a l c, .slice aa ll cc], .nilIface])) w') : Calls P f args w K := by
  refine h.mono ?_
  rintro e w' ⟨g, a, l, c, aa, ll, cc, rfl, hx, hb⟩
  exact @hK w' ⟨hb⟩ g a l c aa ll cc hx
theorem AErRet.fin {w w' : World} {g : Bool} {a aa : Option Addr} {l c ll cc k k' : Nat} {x x' : Rat} [b : Kp w w'] [hx : CA w' (.agg #[.bool g, .slice a l c, .slice aa ll cc]) x' k'] (e : x = x') (m : k' ≤ k) : AErRet w x k (.returned (.tuple #[.agg #[.bool g, .slice a l c, .slice aa ll cc], .nilIface])) w' :=
  ⟨g, a, l, c, aa, ll, cc, rfl, hx.cast e.symm m, b.out⟩
theorem ret_b9 {P : Program} {fn : Func} {R : Ending → World → Prop} {a : Act} {W : World} {b : Nat} {p u : Tmp} {ty t : TypeId} {d : TypeDesc} {l l' : List Value} [hb : Bx W b t l] (hr : fn.results = #[.cell p ty, .tmp u])
    (hu : P.underlying ty = some d) (hd : (match d with | .struct _ | .array _ _ => true | _ => false) = true) (hi : (P.info? ty).map (·.size) = some l.length)
    (hp : a.tmps.getD p undef = .pointer (some ⟨b, 0, none⟩)) (hdf : a.defers = []) (hl : l = l') (hR : R (.returned (.tuple #[.agg l'.toArray, a.tmps.getD u undef])) W) : bodyPost P fn R .ret a W := by
  subst hl
  exact ret_ct hr hp (loadVar_at W b ty l d hu hd hi (fun j hj => by rw [cell_bx, List.getElem?_eq_getElem hj])) hdf hR
theorem areaOk {w w0 : World} {a : Option Addr} {n c : Nat} {V : List AV} {L : List (Rat × Rat)} {k : Nat} [hs : Sl w (.slice a n c) V.length (rowA V) w0] [hp : PsA w V L k] (b : k ≤ 4000) (hV : V.length ≤ 10) (hR : RingOK L) :
    Calls Tryz.prog 34 #[.slice a n c] w (AErRet w (areaL L) (40 * k + 200)) := by
  go_enter Tryz.func34, Tryz.ntmps34
  go_wp2_with (first
    | (go_at_call 77; (with_reducible refine Calls.cPsFEr (ringOfOk (by omega) (by omega) hR) ?_); intro w1 _ a1 c1 V1 _ ip1; have hV1 : V1.length ≤ 10 := by rw [ip1.len, ← PsA.len (W := w) (V := V)]; exact hV)
    | (go_at_call 91; (with_reducible refine Calls.cF (geoAreaC (by omega) hV1) ?_); intros)
    | (go_at_call 92; (with_reducible refine Calls.cA (rApiC (by omega)) ?_); intros))
  refine ret_b9 rfl Tryz.underlying29 rfl (by kernel_rfl) rfl rfl rfl ?_
  exact AErRet.fin rfl (by omega)
theorem Sl.ofBx {W : World} {b n c : Nat} {t : TypeId} {xs : List Value} (h : Bx W b t xs) (hc : n ≤ c := by first | omega | decide) : Sl W (.slice (some ⟨b, 0, none⟩) n c) n xs W :=
  ⟨.inr ⟨b, c, rfl, hc, fun j u hu => by rw [cell_bx (h := h)]; exact hu⟩, fun g e => by cases e; exact h.lt, fun g e => by cases e; exact h.lt⟩
theorem toPs3 {w : World} {b k : Nat} {gx1 gy1 : Bool} {ax1 aax1 ay1 aay1 : Option Addr} {lx1 cx1 llx1 ccx1 ly1 cy1 lly1 ccy1 : Nat} {gx2 gy2 : Bool} {ax2 aax2 ay2 aay2 : Option Addr} {lx2 cx2 llx2 ccx2 ly2 cy2 lly2 ccy2 : Nat} {gx3 gy3 : Bool} {ax3 aax3 ay3 aay3 : Option Addr} {lx3 cx3 llx3 ccx3 ly3 cy3 lly3 ccy3 : Nat} {px1 py1 px2 py2 px3 py3 : Rat} {k1 k2 k3 : Nat} [x1 : CQ w (.agg #[.bool gx1, .slice ax1 lx1 cx1, .slice aax1 llx1 ccx1]) px1 k1] [y1 : CQ w (.agg #[.bool gy1, .slice ay1 ly1 cy1, .slice aay1 lly1 ccy1]) py1 k1] [x2 : CQ w (.agg #[.bool gx2, .slice ax2 lx2 cx2, .slice aax2 llx2 ccx2]) px2 k2] [y2 : CQ w (.agg #[.bool gy2, .slice ay2 ly2 cy2, .slice aay2 lly2 ccy2]) py2 k2] [x3 : CQ w (.agg #[.bool gx3, .slice ax3 lx3 cx3, .slice aax3 llx3 ccx3]) px3 k3] [y3 : CQ w (.agg #[.bool gy3, .slice ay3 ly3 cy3, .slice aay3 lly3 ccy3]) py3 k3] [h : Bx w b 47 [.bool gx1, .slice ax1 lx1 cx1, .slice aax1 llx1 ccx1, .bool gy1, .slice ay1 ly1 cy1, .slice aay1 lly1 ccy1, .bool gx2, .slice ax2 lx2 cx2, .slice aax2 llx2 ccx2, .bool gy2, .slice ay2 ly2 cy2, .slice aay2 lly2 ccy2, .bool gx3, .slice ax3 lx3 cx3, .slice aax3 llx3 ccx3, .bool gy3, .slice ay3 ly3 cy3, .slice aay3 lly3 ccy3]] (hk : k ≤ 400000) (b1 : k1 ≤ k) (b2 : k2 ≤ k) (b3 : k3 ≤ k) :
    Calls Tryz.prog 27 #[.slice (some ⟨b, 0, none⟩) 3 3] w (PsARet w [(px1, py1), (px2, py2), (px3, py3)] (k + 1)) := by
  have i1 : Sl w (.slice (some ⟨b, 0, none⟩) 3 3) (List.length (α := AV) [⟨gx1, ax1, lx1, cx1, aax1, llx1, ccx1, gy1, ay1, ly1, cy1, aay1, lly1, ccy1⟩, ⟨gx2, ax2, lx2, cx2, aax2, llx2, ccx2, gy2, ay2, ly2, cy2, aay2, lly2, ccy2⟩, ⟨gx3, ax3, lx3, cx3, aax3, llx3, ccx3, gy3, ay3, ly3, cy3, aay3, lly3, ccy3⟩]) (rowA [⟨gx1, ax1, lx1, cx1, aax1, llx1, ccx1, gy1, ay1, ly1, cy1, aay1, lly1, ccy1⟩, ⟨gx2, ax2, lx2, cx2, aax2, llx2, ccx2, gy2, ay2, ly2, cy2, aay2, lly2, ccy2⟩, ⟨gx3, ax3, lx3, cx3, aax3, llx3, ccx3, gy3, ay3, ly3, cy3, aay3, lly3, ccy3⟩]) w := Sl.ofBx h
  have i2 : PsQ w [⟨gx1, ax1, lx1, cx1, aax1, llx1, ccx1, gy1, ay1, ly1, cy1, aay1, lly1, ccy1⟩, ⟨gx2, ax2, lx2, cx2, aax2, llx2, ccx2, gy2, ay2, ly2, cy2, aay2, lly2, ccy2⟩, ⟨gx3, ax3, lx3, cx3, aax3, llx3, ccx3, gy3, ay3, ly3, cy3, aay3, lly3, ccy3⟩] [(px1, py1), (px2, py2), (px3, py3)] k := (PsQ.add (h := (PsQ.add (h := (PsQ.add (h := PsQ.nil) (k := k) (b1) (b1))) (k := k) (b2) (b2))) (k := k) (b3) (b3))
  exact toPsC hk (by simp)
theorem toPs4 {w : World} {b k : Nat} {gx1 gy1 : Bool} {ax1 aax1 ay1 aay1 : Option Addr} {lx1 cx1 llx1 ccx1 ly1 cy1 lly1 ccy1 : Nat} {gx2 gy2 : Bool} {ax2 aax2 ay2 aay2 : Option Addr} {lx2 cx2 llx2 ccx2 ly2 cy2 lly2 ccy2 : Nat} {gx3 gy3 : Bool} {ax3 aax3 ay3 aay3 : Option Addr} {lx3 cx3 llx3 ccx3 ly3 cy3 lly3 ccy3 : Nat} {gx4 gy4 : Bool} {ax4 aax4 ay4 aay4 : Option Addr} {lx4 cx4 llx4 ccx4 ly4 cy4 lly4 ccy4 : Nat} {px1 py1 px2 py2 px3 py3 px4 py4 : Rat} {k1 k2 k3 k4 : Nat} [x1 : CQ w (.agg #[.bool gx1, .slice ax1 lx1 cx1, .slice aax1 llx1 ccx1]) px1 k1] [y1 : CQ w (.agg #[.bool gy1, .slice ay1 ly1 cy1, .slice aay1 lly1 ccy1]) py1 k1] [x2 : CQ w (.agg #[.bool gx2, .slice ax2 lx2 cx2, .slice aax2 llx2 ccx2]) px2 k2] [y2 : CQ w (.agg #[.bool gy2, .slice ay2 ly2 cy2, .slice aay2 lly2 ccy2]) py2 k2] [x3 : CQ w (.agg #[.bool gx3, .slice ax3 lx3 cx3, .slice aax3 llx3 ccx3]) px3 k3] [y3 : CQ w (.agg #[.bool gy3, .slice ay3 ly3 cy3, .slice aay3 lly3 ccy3]) py3 k3] [x4 : CQ w (.agg #[.bool gx4, .slice ax4 lx4 cx4, .slice aax4 llx4 ccx4]) px4 k4] [y4 : CQ w (.agg #[.bool gy4, .slice ay4 ly4 cy4, .slice aay4 lly4 ccy4]) py4 k4] [h : Bx w b 47 [.bool gx1, .slice ax1 lx1 cx1, .slice aax1 llx1 ccx1, .bool gy1, .slice ay1 ly1 cy1, .slice aay1 lly1 ccy1, .bool gx2, .slice ax2 lx2 cx2, .slice aax2 llx2 ccx2, .bool gy2, .slice ay2 ly2 cy2, .slice aay2 lly2 ccy2, .bool gx3, .slice ax3 lx3 cx3, .slice aax3 llx3 ccx3, .bool gy3, .slice ay3 ly3 cy3, .slice aay3 lly3 ccy3, .bool gx4, .slice ax4 lx4 cx4, .slice aax4 llx4 ccx4, .bool gy4, .slice ay4 ly4 cy4, .slice aay4 lly4 ccy4]] (hk : k ≤ 400000) (b1 : k1 ≤ k) (b2 : k2 ≤ k) (b3 : k3 ≤ k) (b4 : k4 ≤ k) :
    Calls Tryz.prog 27 #[.slice (some ⟨b, 0, none⟩) 4 4] w (PsARet w [(px1, py1), (px2, py2), (px3, py3), (px4, py4)] (k + 1)) := by
  have i1 : Sl w (.slice (some ⟨b, 0, none⟩) 4 4) (List.length (α := AV) [⟨gx1, ax1, lx1, cx1, aax1, llx1, ccx1, gy1, ay1, ly1, cy1, aay1, lly1, ccy1⟩, ⟨gx2, ax2, lx2, cx2, aax2, llx2, ccx2, gy2, ay2, ly2, cy2, aay2, lly2, ccy2⟩, ⟨gx3, ax3, lx3, cx3, aax3, llx3, ccx3, gy3, ay3, ly3, cy3, aay3, lly3, ccy3⟩, ⟨gx4, ax4, lx4, cx4, aax4, llx4, ccx4, gy4, ay4, ly4, cy4, aay4, lly4, ccy4⟩]) (rowA [⟨gx1, ax1, lx1, cx1, aax1, llx1, ccx1, gy1, ay1, ly1, cy1, aay1, lly1, ccy1⟩, ⟨gx2, ax2, lx2, cx2, aax2, llx2, ccx2, gy2, ay2, ly2, cy2, aay2, lly2, ccy2⟩, ⟨gx3, ax3, lx3, cx3, aax3, llx3, ccx3, gy3, ay3, ly3, cy3, aay3, lly3, ccy3⟩, ⟨gx4, ax4, lx4, cx4, aax4, llx4, ccx4, gy4, ay4, ly4, cy4, aay4, lly4, ccy4⟩]) w := Sl.ofBx h
  have i2 : PsQ w [⟨gx1, ax1, lx1, cx1, aax1, llx1, ccx1, gy1, ay1, ly1, cy1, aay1, lly1, ccy1⟩, ⟨gx2, ax2, lx2, cx2, aax2, llx2, ccx2, gy2, ay2, ly2, cy2, aay2, lly2, ccy2⟩, ⟨gx3, ax3, lx3, cx3, aax3, llx3, ccx3, gy3, ay3, ly3, cy3, aay3, lly3, ccy3⟩, ⟨gx4, ax4, lx4, cx4, aax4, llx4, ccx4, gy4, ay4, ly4, cy4, aay4, lly4, ccy4⟩] [(px1, py1), (px2, py2), (px3, py3), (px4, py4)] k := (PsQ.add (h := (PsQ.add (h := (PsQ.add (h := (PsQ.add (h := PsQ.nil) (k := k) (b1) (b1))) (k := k) (b2) (b2))) (k := k) (b3) (b3))) (k := k) (b4) (b4))
  exact toPsC hk (by simp)
theorem known09C {w w1 : World} {aR : Addr} [hR0 : Snt w 3 aR w1] : Calls Tryz.prog 24 #[] w fun e w' => e = .returned (.bool true) ∧ Below w.heap.size w w' := by
  have hR := hR0.here
  clear hR0
  have r1 : RingOK [(((0 : Int) : Rat), ((0 : Int) : Rat)), (((2 : Int) : Rat), ((0 : Int) : Rat)), (((0 : Int) : Rat), ((2 : Int) : Rat))] := ring3 (by decide +kernel) (by decide +kernel) (by decide +kernel)
  have r2 : dsc [(((0 : Int) : Rat), ((0 : Int) : Rat)), (((1 : Int) : Rat), ((0 : Int) : Rat)), (((0 : Int) : Rat), ((0 : Int) : Rat)), (((1 : Int) : Rat), ((0 : Int) : Rat))] 4 < 3 := by decide +kernel
  have R2 := Lib.hid r2
  have R1 := Lib.hid r1
  clear r1 r2
  have r3 : Hid (isgn (areaL [(((0 : Int) : Rat), ((0 : Int) : Rat)), (((2 : Int) : Rat), ((0 : Int) : Rat)), (((0 : Int) : Rat), ((2 : Int) : Rat))] - ((2 : Int) : Rat)).num = 0) := by show _ = _; decide +kernel
  go_enter Tryz.func24, Tryz.ntmps24
  go_wp2_with (go_at_call 22; (with_reducible refine Calls.cPQ (refXyC (by omega)) ?_); intros)
  with_reducible refine Calls.cPsARet (toPs3 (k := 4) (by omega) (by omega) (by omega) (by omega)) ?_
  intro v1 _ sa1 sc1 V1 _ ip1
  have hV1 := Lib.hid (show V1.length = 3 from ip1.len)
  go_wp2_with (first
    | (go_at_call 22; (with_reducible refine Calls.cPQ (refXyC (by omega)) ?_); intros)
    | (go_at_call 34; (with_reducible refine Calls.cAEr (areaOk (V := V1) (by omega) (by have := hV1.out; omega) R1.out) ?_); intro v2 _ g2 a2 l2 c2 aa2 ll2 cc2 _; clear hV1 ip1))
  with_reducible refine Calls.cPsARet (toPs4 (k := 4) (by omega) (by omega) (by omega) (by omega) (by omega)) ?_
  intro v3 _ sa3 sc3 V3 _ ip3
  have hV3 := Lib.hid (show V3.length = 4 from ip3.len)
  go_wp2_with (first
    | (go_at_call 23; (with_reducible refine Calls.cOErr (checkThree (V := V3) (by omega) (by have := hV3.out; omega) R2.out) ?_); intros)
    | (go_at_call 56; (with_reducible refine Calls.cQ (refQC (by omega)) ?_); intros)
    | (go_at_call 76; (with_reducible refine Calls.cQ (numOfC (by omega)) ?_); intros)
    | (go_at_call 78; (with_reducible refine Calls.cE (numCV (by omega) r3) ?_); intros)
    | (go_at_call 18; (with_reducible refine Calls.cS isSameC ?_)))
  go_ret
  exact E.fin rfl
end Go.Proofs.YtdlnoeegboapkaaGreatDoor

/- A ring off the tape. printed by a small program (mkrg8.py). -/
namespace Go.Proofs.YtdlnoeegboapkaaGreatDoor
open Go.RowKit
set_option maxRecDepth 100000
set_option maxHeartbeats 40000000
set_option synthInstance.maxSize 100000
set_option synthInstance.maxHeartbeats 1000000
set_option linter.unusedVariables false

/-- Points with small integer coordinates. -/
def IntL (L : List (Rat × Rat)) : Prop := ∀ i, i < L.length → ∃ x y : Int, pg L i = ((x : Rat), (y : Rat)) ∧ (-8 ≤ x ∧ x ≤ 8) ∧ -8 ≤ y ∧ y ≤ 8
theorem IntL.nil : IntL [] := fun i h => by simp at h
theorem IntL.snoc {L : List (Rat × Rat)} {x y : Int} (h : IntL L) (hx : -8 ≤ x ∧ x ≤ 8) (hy : -8 ≤ y ∧ y ≤ 8) : IntL (L ++ [((x : Rat), (y : Rat))]) := by
  intro i hi
  rw [List.length_append, List.length_singleton] at hi
  rcases Nat.lt_or_ge i L.length with h1 | h1
  · obtain ⟨u, v, e, b⟩ := h i h1
    refine ⟨u, v, ?_, b⟩
    rw [pg_get (by simp; omega), List.getElem_append_left h1, ← pg_get h1, e]
  · have : i = L.length := by omega
    subst this
    refine ⟨x, y, ?_, hx, hy⟩
    rw [pg_get (by simp)]; simp
theorem IntL.take {L : List (Rat × Rat)} (h : IntL L) (k : Nat) : IntL (L.take k) := by
  intro i hi
  have hl := hi
  rw [List.length_take] at hl
  obtain ⟨u, v, e, b⟩ := h i (by omega)
  refine ⟨u, v, ?_, b⟩
  rw [pg_get hi, List.getElem_take, ← pg_get (by omega), e]
theorem PsQ.take {W : World} {V : List AV} {L : List (Rat × Rat)} {k : Nat} (h : PsQ W V L k) (n : Nat) : PsQ W (V.take n) (L.take n) k := by
  have hl := h.len
  refine ⟨by rw [List.length_take, List.length_take, hl], fun i hi => ?_, fun i hi => ?_⟩
  all_goals
    have h2 := hi
    rw [List.length_take] at h2
    have e1 : av (V.take n) i = av V i := by rw [av_get hi, av_get (by omega), List.getElem_take]
    have e2 : pg (L.take n) i = pg L i := by rw [pg_get (by rw [List.length_take]; omega), pg_get (by omega), List.getElem_take]
    rw [e1, e2]
    first | exact h.x i (by omega) | exact h.y i (by omega)
theorem Sl.take {W w0 : World} {a : Option Addr} {n c m : Nat} {V : List AV} (h : Sl W (.slice a n c) V.length (rowA V) w0) (hm : m ≤ V.length) : Sl W (.slice a m c) (V.take m).length (rowA (V.take m)) w0 := by
  have e : (V.take m).length = m := by rw [List.length_take]; omega
  rw [e]
  rcases h.out with ⟨e1, e2⟩ | ⟨g, c', e1, hn, hc⟩
  · injection e1 with e3 e4 e5
    subst e3; subst e5
    have : m = 0 := by omega
    subst this
    exact ⟨.inl ⟨rfl, rfl⟩, h.lt, h.ltW⟩
  · injection e1 with e3 e4 e5
    subst e3; subst e5
    exact ⟨.inr ⟨g, _, rfl, by omega, fun j u hu => hc j u (rowA_take V m j u hu)⟩, h.lt, h.ltW⟩
theorem Sl.takeI {W w0 : World} {a : Option Addr} {n c : Nat} {V : List AV} [h : Sl W (.slice a n c) V.length (rowA V) w0] (m : Nat) (hm : m ≤ V.length) : Sl W (.slice a (V.take m).length c) (V.take m).length (rowA (V.take m)) w0 := by
  have h9 := h.take hm
  have e : (V.take m).length = m := by rw [List.length_take]; omega
  rw [e] at h9 ⊢
  exact h9
theorem CQ.small {W : World} {v : Value} {z : Int} {k : Nat} (h : CQ W v ((z : Int) : Rat) k) (b : -8 ≤ z ∧ z ≤ 8) : CQ W v ((z : Int) : Rat) 4 := by
  obtain ⟨g, a, l, c, aa, ll, cc, e, ⟨h1, h2⟩, h3⟩ := h.out
  have e1 : (((z : Int) : Rat).num).natAbs = z.natAbs := by rw [show ((z : Int) : Rat).num = z from rfl]
  have e2 : ((z : Int) : Rat).den = 1 := rfl
  refine ⟨g, a, l, c, aa, ll, cc, e, ⟨h1, h2.1, ?_⟩, h3.1, ?_⟩
  · rw [e1]
    exact Nat.le_trans (nf_len_le (k := 1) (by omega)) (by decide)
  · rw [e2]; exact Nat.le_trans (nf_len_le (k := 1) (by decide)) (by decide)
theorem pne {a b c d : Int} (h : ¬ (a = c ∧ b = d)) : (((a : Int) : Rat), ((b : Int) : Rat)) ≠ (((c : Int) : Rat), ((d : Int) : Rat)) := fun e => h ⟨Rat.intCast_inj.1 (congrArg Prod.fst e), Rat.intCast_inj.1 (congrArg Prod.snd e)⟩
theorem numSW {w : World} {v : Int} {g1 : Bool} {a1 aa1 : Option Addr} {l1 c1 ll1 cc1 k1 : Nat} {x : Rat} [h1 : CQ w (.agg #[.bool g1, .slice a1 l1 c1, .slice aa1 ll1 cc1]) x k1] (hv : Hid (isgn x.num = v)) :
    Calls Tryz.prog 54 #[.agg #[.bool g1, .slice a1 l1 c1, .slice aa1 ll1 cc1]] w fun e w' => e = .returned (.int .i64 v) ∧ Below w.heap.size w w' := by
  rw [← hv.out]; exact numSC
theorem one_mul_add (a b : Int) : ((a : Int) : Rat) + ((1 : Int) : Rat) * ((b : Int) : Rat) = ((a + b : Int) : Rat) := by
  rw [Rat.intCast_add, show ((1 : Int) : Rat) = 1 from rfl, Rat.one_mul]
def slLen : Value → Nat
  | .slice _ n _ => n
  | _ => 0
theorem cell_az0 {W w0 : World} {g : Nat} {V : List AV} [h : At W g (rowA V) w0] (hk : 0 < V.length) : W.cell? ⟨g, 0, none⟩ = some (.bool (av V 0).gx) := by
  have := at_a h hk (j := 0) (by decide)
  rw [Nat.zero_mul, Nat.zero_add] at this; exact this
theorem cell_az1 {W w0 : World} {g : Nat} {V : List AV} [h : At W g (rowA V) w0] (hk : 0 < V.length) : W.cell? ⟨g, 1, none⟩ = some (.slice (av V 0).ax (av V 0).lx (av V 0).cx) := by
  have := at_a h hk (j := 1) (by decide)
  rw [Nat.zero_mul, Nat.zero_add] at this; exact this
theorem cell_az2 {W w0 : World} {g : Nat} {V : List AV} [h : At W g (rowA V) w0] (hk : 0 < V.length) : W.cell? ⟨g, 2, none⟩ = some (.slice (av V 0).aax (av V 0).llx (av V 0).ccx) := by
  have := at_a h hk (j := 2) (by decide)
  rw [Nat.zero_mul, Nat.zero_add] at this; exact this
theorem cell_az3 {W w0 : World} {g : Nat} {V : List AV} [h : At W g (rowA V) w0] (hk : 0 < V.length) : W.cell? ⟨g, 3, none⟩ = some (.bool (av V 0).gy) := by
  have := at_a h hk (j := 3) (by decide)
  rw [Nat.zero_mul, Nat.zero_add] at this; exact this
theorem cell_az4 {W w0 : World} {g : Nat} {V : List AV} [h : At W g (rowA V) w0] (hk : 0 < V.length) : W.cell? ⟨g, 4, none⟩ = some (.slice (av V 0).ay (av V 0).ly (av V 0).cy) := by
  have := at_a h hk (j := 4) (by decide)
  rw [Nat.zero_mul, Nat.zero_add] at this; exact this
theorem cell_az5 {W w0 : World} {g : Nat} {V : List AV} [h : At W g (rowA V) w0] (hk : 0 < V.length) : W.cell? ⟨g, 5, none⟩ = some (.slice (av V 0).aay (av V 0).lly (av V 0).ccy) := by
  have := at_a h hk (j := 5) (by decide)
  rw [Nat.zero_mul, Nat.zero_add] at this; exact this
attribute [local go_sem] cell_az0 cell_az1 cell_az2 cell_az3 cell_az4 cell_az5
/-- The block of a slice lies from base on. -/
class Lo (v : Value) (base : outParam Nat) : Prop where out : ∀ g, v.ownBlock = some g → base ≤ g
theorem Rn.lo {W w0 : World} {a : Option Addr} {e : TypeId} {sz n n' c base : Nat} {xs : List Value} (h : Rn W (.slice a n' c) e sz n xs base w0) (m d : Nat) : Lo (.slice a m d) base := ⟨fun g eg => (h.rw'.out.lt g (by cases a <;> simp_all [Value.ownBlock])).1⟩
theorem Lo.re {a : Option Addr} {n c base : Nat} (h : Lo (.slice a n c) base) (m d : Nat) : Lo (.slice a m d) base := ⟨fun g eg => h.out g (by cases a <;> simp_all [Value.ownBlock])⟩
theorem Lo.new {w : World} {b n c : Nat} [h : Gg w b] : Lo (.slice (some ⟨b, 0, none⟩) n c) w.heap.size := ⟨fun g eg => by cases eg; exact h.out⟩
instance (priority := low) Sl.tp2 {W W2 w0 : World} {v : Value} {n base q : Nat} {xs : List Value} [k : Tp1 W W2 q] [h : Sl W v n xs w0] [o : Lo v base] [l : LtN q base] : Sl W2 v n xs w0 := h.keep k.gb.size
  (fun g e => k.gb.block _ (h.ltW g e) (fun x => by injection x with x; have := l.out; have := o.out g e; omega))
/-- A ring off the tape: a valid one, of small integers. -/
def RingRet (w : World) (t : Nat) (e : Ending) (w' : World) : Prop := ∃ (a : Option Addr) (c : Nat) (V : List AV) (L : List (Rat × Rat)), e = .returned (.slice a V.length c) ∧ Sl w' (.slice a V.length c) V.length (rowA V) w' ∧ PsQ w' V L 4 ∧ (RingOK L ∧ IntL L ∧ V.length ≤ 6) ∧ Lo (.slice a V.length c) w.heap.size ∧ Ct w' t ∧ Gb w w' t
theorem Calls.cRing {P : Program} {f : FuncId} {args : Array Value} {w : World} {t : Nat} {K : Ending → World → Prop} [ht : Ct w t] (h : Calls P f args w (RingRet w t))
    (hK : ∀ w' [Tp1 w w' t] [Ct w' t] (a : Option Addr) (c : Nat) (V : List AV) (L : List (Rat × Rat)) [Sl w' (.slice a V.length c) V.length (rowA V) w'] [PsQ w' V L 4] [Lo (.slice a V.length c) w.heap.size], Hid (RingOK L ∧ IntL L ∧ V.length ≤ 6) → K (.returned (.slice a V.length c)) w') : Calls P f args w K := by
  refine h.mono ?_
  rintro e w' ⟨a, c, V, L, rfl, hs, hp, hr, hl, hc, hb⟩
  exact @hK w' ⟨hb.out, ht.out⟩ hc a c V L hs hp hl hr
theorem RingRet.fin {w w' w0 : World} {t n c : Nat} {a : Option Addr} {V : List AV} {L : List (Rat × Rat)} [hs : Sl w' (.slice a n c) V.length (rowA V) w0] [hp : PsQ w' V L 4] [hc : Ct w' t] [hg : Gb w w' t] (hr : RingOK L ∧ IntL L ∧ V.length ≤ 6) (hl : Lo (.slice a n c) w.heap.size) : RingRet w t (.returned (.slice a n c)) w' := by
  obtain rfl := hs.len
  exact ⟨a, c, V, L, rfl, hs.here, hp, hr, hl, hc, hg⟩
theorem tapeRingC {w : World} {t : Nat} [ht : Ct w t] : Calls Tryz.prog 25 #[.pointer (some ⟨t, 0, none⟩)] w (RingRet w t) := by
  go_enter Tryz.func25, Tryz.ntmps25
  go_upto_region 1 with fail
  go_wp2_with fail
  with_reducible refine Calls.cNext (nextC (by omega)) ?_
  intro W0 _ _ v0 v01 v02
  go_upto_block 0 with fail
  go_cut [3, 4, 5, 6, 7, 8, 9] from 13 to 68 (fun s3 s4 s5 s6 s7 s8 s9 wx => Ct wx t ∧ Gb w wx t)
  case first =>
    by_cases h0 : v0 = 0
    · subst h0
      go_wp2_with fail
      with_reducible refine Calls.cNext (nextC (by omega)) ?_
      intro W1 _ _ m m1 m2
      have e1 : IntKind.i64.wrap (m - 4) = m - 4 := by rw [IntKind.wrap_i64]; omega
      go_wp2_with fail
      with_reducible refine Calls.cNext (nextC (by omega)) ?_
      intro W2 _ _ n n1 n2
      have e2 : IntKind.i64.wrap (n - 4) = n - 4 := by rw [IntKind.wrap_i64]; omega
      obtain ⟨A, hA⟩ : ∃ A, m - 4 = A := ⟨_, rfl⟩
      obtain ⟨B, hB⟩ : ∃ B, n - 4 = B := ⟨_, rfl⟩
      rw [hA] at e1
      rw [hB] at e2
      have e3 : IntKind.i64.wrap (A + 1) = A + 1 := wr_in (by omega) (by omega)
      have e4 : IntKind.i64.wrap (B + 1) = B + 1 := wr_in (by omega) (by omega)
      go_wp2_with fail
      with_reducible refine Calls.cNext (nextC (by omega)) ?_
      intro W3 _ _ x x1 x2
      have e5 : IntKind.i64.wrap (A + 1 + x) = A + 1 + x := wr_in (by omega) (by omega)
      go_wp2_with fail
      with_reducible refine Calls.cNext (nextC (by omega)) ?_
      intro W4 _ _ y y1 y2
      have e6 : IntKind.i64.wrap (B + 1 + y) = B + 1 + y := wr_in (by omega) (by omega)
      obtain ⟨C, hC⟩ : ∃ C, A + 1 + x = C := ⟨_, rfl⟩
      obtain ⟨D, hD⟩ : ∃ D, B + 1 + y = D := ⟨_, rfl⟩
      have HH : Hid ((-4 ≤ A ∧ A ≤ 0) ∧ (-4 ≤ B ∧ B ≤ 0) ∧ (A < C ∧ C ≤ 4) ∧ (B < D ∧ D ≤ 4)) := Lib.hid (by omega)
      rw [hC] at e5
      rw [hD] at e6
      have hH := HH.out
      clear hA hB
      go_wp2_with fail
      with_reducible refine Calls.cPQ (refXyC (by omega)) ?_
      intro y1 _ gx1 ax1 lx1 cx1 aax1 llx1 ccx1 gy1 ay1 ly1 cy1 aay1 lly1 ccy1 _ _
      go_wp2_with fail
      with_reducible refine Calls.cPQ (refXyC (by omega)) ?_
      intro y2 _ gx2 ax2 lx2 cx2 aax2 llx2 ccx2 gy2 ay2 ly2 cy2 aay2 lly2 ccy2 _ _
      go_wp2_with fail
      with_reducible refine Calls.cPQ (refXyC (by omega)) ?_
      intro y3 _ gx3 ax3 lx3 cx3 aax3 llx3 ccx3 gy3 ay3 ly3 cy3 aay3 lly3 ccy3 _ _
      go_wp2_with fail
      with_reducible refine Calls.cPQ (refXyC (by omega)) ?_
      intro y4 _ gx4 ax4 lx4 cx4 aax4 llx4 ccx4 gy4 ay4 ly4 cy4 aay4 lly4 ccy4 _ _
      go_wp2_with fail
      go_ret
      exact RingRet.fin (V := [⟨gx1, ax1, lx1, cx1, aax1, llx1, ccx1, gy1, ay1, ly1, cy1, aay1, lly1, ccy1⟩, ⟨gx2, ax2, lx2, cx2, aax2, llx2, ccx2, gy2, ay2, ly2, cy2, aay2, lly2, ccy2⟩, ⟨gx3, ax3, lx3, cx3, aax3, llx3, ccx3, gy3, ay3, ly3, cy3, aay3, lly3, ccy3⟩, ⟨gx4, ax4, lx4, cx4, aax4, llx4, ccx4, gy4, ay4, ly4, cy4, aay4, lly4, ccy4⟩]) (L := [(((A : Int) : Rat), ((B : Int) : Rat)), (((C : Int) : Rat), ((B : Int) : Rat)), (((C : Int) : Rat), ((D : Int) : Rat)), (((A : Int) : Rat), ((D : Int) : Rat))]) (hs := Sl.ofBx (Bx.re rfl)) (hp := (PsQ.snoc (a := ⟨gx4, ax4, lx4, cx4, aax4, llx4, ccx4, gy4, ay4, ly4, cy4, aay4, lly4, ccy4⟩) (x := ((A : Int) : Rat)) (y := ((D : Int) : Rat)) (PsQ.snoc (a := ⟨gx3, ax3, lx3, cx3, aax3, llx3, ccx3, gy3, ay3, ly3, cy3, aay3, lly3, ccy3⟩) (x := ((C : Int) : Rat)) (y := ((D : Int) : Rat)) (PsQ.snoc (a := ⟨gx2, ax2, lx2, cx2, aax2, llx2, ccx2, gy2, ay2, ly2, cy2, aay2, lly2, ccy2⟩) (x := ((C : Int) : Rat)) (y := ((B : Int) : Rat)) (PsQ.snoc (a := ⟨gx1, ax1, lx1, cx1, aax1, llx1, ccx1, gy1, ay1, ly1, cy1, aay1, lly1, ccy1⟩) (x := ((A : Int) : Rat)) (y := ((B : Int) : Rat)) PsQ.nil inferInstance inferInstance (Nat.le_refl _) (Nat.le_refl _)) inferInstance inferInstance (Nat.le_refl _) (Nat.le_refl _)) inferInstance inferInstance (Nat.le_refl _) (Nat.le_refl _)) inferInstance inferInstance (Nat.le_refl _) (Nat.le_refl _))) ⟨ring4 (pne (by omega)) (pne (by omega)) (pne (by omega)) (pne (by omega)) (pne (by omega)), (IntL.snoc (IntL.snoc (IntL.snoc (IntL.snoc IntL.nil (by omega) (by omega)) (by omega) (by omega)) (by omega) (by omega)) (by omega) (by omega)), (by simp)⟩ Lo.new
    · by_cases h1 : v0 = 1
      · subst h1
        go_wp2_with fail
        with_reducible refine Calls.cTPI tapePI ?_
        intro W1 _ _ pgx pax plx pcx paax pllx pccx pgy pay ply pcy paay plly pccy pm pn _ _ hp
        go_wp2_with fail
        with_reducible refine Calls.cTVI tapeVI ?_
        intro W2 _ _ u1 u2 u3 u4 u5 u6 u7 u8 u9 u10 u11 u12 u13 u14 um un _ _ hu
        go_wp2_with fail
        with_reducible refine Calls.cTVI tapeVI ?_
        intro W3 _ _ t1 t2 t3 t4 t5 t6 t7 t8 t9 t10 t11 t12 t13 t14 vm vn _ _ hv
        obtain ⟨s, hs⟩ : ∃ s, isgn (((um : Int) : Rat) * ((vn : Int) : Rat) - ((un : Int) : Rat) * ((vm : Int) : Rat)).num = s := ⟨_, rfl⟩
        have HS := Lib.hid hs
        clear hs
        by_cases hz : s = 0
        · have hz1 : (s != 0) = false := by simp [hz]
          go_wp2_with (first
            | (go_at_call 81; (with_reducible refine Calls.cQ (refCrossC (by omega)) ?_); intros)
            | (go_at_call 54; (with_reducible refine Calls.cE (numSW HS) ?_); intros))
          go_meet
          exact ⟨inferInstance, inferInstance⟩
        · have hz1 : (s != 0) = true := by simp [hz]
          go_wp2_with (first
            | (go_at_call 81; (with_reducible refine Calls.cQ (refCrossC (by omega)) ?_); intros)
            | (go_at_call 54; (with_reducible refine Calls.cE (numSW HS) ?_); intros))
          have hp' := hp.out
          have hu' := hu.out
          have hv' := hv.out
          have hne : ¬ (um = vm ∧ un = vn) := by
            rintro ⟨rfl, rfl⟩
            have h2 := HS.out
            rw [show ((um : Int) : Rat) * ((un : Int) : Rat) - ((un : Int) : Rat) * ((um : Int) : Rat) = 0 by grind] at h2
            exact hz h2.symm
          refine rgn [] [] fun hHeld => ?_
          refine tk 0 hHeld ?_
          refine tk 1 hHeld ?_
          refine tk 3 hHeld ?_
          refine tk 5 hHeld ?_
          refine tk 7 hHeld ?_
          refine st 2 fun K hK => ?_
          go_simp
          (with_reducible refine Calls.cQ (numOfC (by omega)) ?_); intros
          refine hd hK ?_
          clear hHeld hK K
          intro hHeld
          refine st 4 fun K hK => ?_
          go_simp
          (with_reducible refine Calls.cPQ (refPAddC (by omega)) ?_); intro y1 _ gx1 ax1 lx1 cx1 aax1 llx1 ccx1 gy1 ay1 ly1 cy1 aay1 lly1 ccy1 _ _
          refine hd hK ?_
          clear hHeld hK K
          intro hHeld
          refine st 6 fun K hK => ?_
          go_simp
          (with_reducible refine Calls.cQ (numOfC (by omega)) ?_); intros
          refine hd hK ?_
          clear hHeld hK K
          intro hHeld
          refine st 8 fun K hK => ?_
          go_simp
          (with_reducible refine Calls.cPQ (refPAddC (by omega)) ?_); intro y2 _ gx2 ax2 lx2 cx2 aax2 llx2 ccx2 gy2 ay2 ly2 cy2 aay2 lly2 ccy2 _ _
          refine hd hK ?_
          clear hHeld hK K
          intro hHeld
          refine st 9 fun K hK => ?_
          go_simp
          refine hd hK ?_
          clear hHeld hK K
          intro hHeld
          refine tk 10 hHeld ?_
          refine dn ?_
          clear hHeld
          go_wp2
          go_ret
          exact RingRet.fin (V := [⟨pgx, pax, plx, pcx, paax, pllx, pccx, pgy, pay, ply, pcy, paay, plly, pccy⟩, ⟨gx1, ax1, lx1, cx1, aax1, llx1, ccx1, gy1, ay1, ly1, cy1, aay1, lly1, ccy1⟩, ⟨gx2, ax2, lx2, cx2, aax2, llx2, ccx2, gy2, ay2, ly2, cy2, aay2, lly2, ccy2⟩]) (L := [(((pm : Int) : Rat), ((pn : Int) : Rat)), (((pm + um : Int) : Rat), ((pn + un : Int) : Rat)), (((pm + vm : Int) : Rat), ((pn + vn : Int) : Rat))]) (hs := Sl.ofBx (Bx.re rfl)) (hp := (PsQ.snoc (a := ⟨gx2, ax2, lx2, cx2, aax2, llx2, ccx2, gy2, ay2, ly2, cy2, aay2, lly2, ccy2⟩) (x := ((pm + vm : Int) : Rat)) (y := ((pn + vn : Int) : Rat)) (PsQ.snoc (a := ⟨gx1, ax1, lx1, cx1, aax1, llx1, ccx1, gy1, ay1, ly1, cy1, aay1, lly1, ccy1⟩) (x := ((pm + um : Int) : Rat)) (y := ((pn + un : Int) : Rat)) (PsQ.snoc (a := ⟨pgx, pax, plx, pcx, paax, pllx, pccx, pgy, pay, ply, pcy, paay, plly, pccy⟩) (x := ((pm : Int) : Rat)) (y := ((pn : Int) : Rat)) PsQ.nil inferInstance inferInstance (Nat.le_refl _) (Nat.le_refl _)) (CQ.small (CQ.cast inferInstance (one_mul_add _ _) (Nat.le_refl _)) (by omega)) (CQ.small (CQ.cast inferInstance (one_mul_add _ _) (Nat.le_refl _)) (by omega)) (Nat.le_refl _) (Nat.le_refl _)) (CQ.small (CQ.cast inferInstance (one_mul_add _ _) (Nat.le_refl _)) (by omega)) (CQ.small (CQ.cast inferInstance (one_mul_add _ _) (Nat.le_refl _)) (by omega)) (Nat.le_refl _) (Nat.le_refl _))) ⟨ring3 (pne (by omega)) (pne (by omega)) (pne (by omega)), (IntL.snoc (IntL.snoc (IntL.snoc IntL.nil (by omega) (by omega)) (by omega) (by omega)) (by omega) (by omega)), (by simp)⟩ Lo.new
      · have h1' : (v0 == 1) = false := beq_false_of_ne h1
        have h0' : (v0 == 0) = false := beq_false_of_ne h0
        go_wp2_with fail
        go_meet
        exact ⟨inferInstance, inferInstance⟩
  case rest =>
    obtain ⟨c1, c2⟩ := hcut
    go_wp2_with fail
    with_reducible refine Calls.cNext (nextC (by omega)) ?_
    intro W1 _ _ x x1 x2
    obtain ⟨X, hX, hX6⟩ : ∃ X : Nat, 3 + x = (X : Int) ∧ X ≤ 6 := ⟨(3 + x).toNat, by omega, by omega⟩
    have e1 : IntKind.i64.wrap (3 + x) = (X : Int) := by rw [wr_in (by omega) (by omega), hX]
    go_wp2_with fail
    go_loopw [11, 10] (fun i o wr => ∃ (m : Nat) (U : List AV) (N : List (Rat × Rat)), i = .int .i64 (m : Int) ∧ Rn wr o 47 6 U.length (rowA U) w.heap.size wr ∧ PsQ wr U N 4 ∧ Hid (Steps N ∧ IntL N ∧ U.length + m ≤ 6) ∧ Ct wr t ∧ Gb w wr t) (fun i _ _ => (intOf i).toNat)
    case atStart => exact ⟨X, [], [], rfl, Rn.cast2 (Rn.nil (Gb.out (w := w) (g := t)).size) rfl rfl, PsQ.nil, Lib.hid ⟨Steps.nil, IntL.nil, by simpa using hX6⟩, inferInstance, inferInstance⟩
    case round =>
      obtain ⟨m1, U, N, rfl, i1, i2, hI, i3, i4⟩ := hrel
      have kt : Tp1 w wr t := ⟨i4.out, ht.out⟩
      obtain ⟨a3, c3, rfl⟩ := i1.slice
      obtain ⟨hc1, hc2⟩ := i1.cap
      cases m1 with
      | succ m =>
        have hm : 0 < ((m + 1 : Nat) : Int) := by omega
        have hm2 : (0 : Int) < (m : Int) + 1 := by omega
        have em : IntKind.i64.wrap ((m : Int) + 1 - 1) = (m : Int) := by rw [wr_in (by have := hI.out; omega) (by have := hI.out; omega)]; omega
        have em2 : IntKind.i64.wrap (m : Int) = (m : Int) := wr_in (by have := hI.out; omega) (by have := hI.out; omega)
        go_wp2_with fail
        with_reducible refine Calls.cTPI tapePI ?_
        intro W2 _ _ pgx pax plx pcx paax pllx pccx pgy pay ply pcy paay plly pccy pm pn _ _ hp
        have hp' := hp.out
        by_cases hU : U = []
        · subst hU
          have hN : N = [] := List.eq_nil_of_length_eq_zero i2.len.symm
          have i9 : Rn wr (.slice a3 0 c3) 47 6 0 [] w.heap.size wr := i1
          clear i1
          go_wp2_with fail
          refine rgn [] [] fun hHeld => ?_
          refine tk 0 hHeld ?_
          refine tk 1 hHeld ?_
          refine tk 2 hHeld ?_
          refine tk 3 hHeld ?_
          refine tkU 4 hHeld ?_
          refine tkU 5 hHeld ?_
          refine tkU 6 hHeld ?_
          refine tkU 7 hHeld ?_
          refine tkU 8 hHeld ?_
          refine tkU 9 hHeld ?_
          refine tkU 10 hHeld ?_
          refine tkU 11 hHeld ?_
          refine tkU 12 hHeld ?_
          refine tk 13 hHeld ?_
          refine dn ?_
          clear hHeld
          go_wp2_with (at_builtin; go_loud (refine app_rn1 (v := .slice a3 0 c3) rfl (.tmp 92) (.tmp 94) 61 rfl Tryz.underlying61 info_q rfl (by decide) (by decide) (by decide) inferInstance rfl (by simp) rfl (by rfl) ?h1 ?h2 (by have := hI.out; omega) ?_); (case h1 => exact AV.one ⟨_, _, _, _, _, _, _, _, _, _, _, _, _, _⟩); (case h2 => exact AV.nd ⟨_, _, _, _, _, _, _, _, _, _, _, _, _, _⟩); intro g2 c2 w2 i9 i10 i11)
          go_roundw
          case rel => exact ⟨m, ([] : List AV) ++ [⟨pgx, pax, plx, pcx, paax, pllx, pccx, pgy, pay, ply, pcy, paay, plly, pccy⟩], N ++ [(((pm : Int) : Rat), ((pn : Int) : Rat))], by go_num, Rn.cast2 (inferInstance) (by simp) rfl, PsQ.add (Nat.le_refl _) (Nat.le_refl _), Lib.hid ⟨Steps.snoc hI.out.1 (.inl hN), IntL.snoc hI.out.2.1 (by omega) (by omega), by have := hI.out; rw [List.length_append, List.length_singleton]; omega⟩, inferInstance, inferInstance⟩
          case measure => simp [intOf]
        · have hU0 : 0 < U.length := List.length_pos_iff.2 hU
          have hU1 : ¬ ((U.length : Int) = 0) := by omega
          have hU2 : ¬ (U.length = 0) := by omega
          have hU3 : ((U.length : Int) == 0) = false := beq_false_of_ne hU1
          obtain ⟨j, hj⟩ : ∃ j, U.length = j + 1 := ⟨U.length - 1, by omega⟩
          have hjl : j < U.length := by omega
          have lj : LtN j U.length := ⟨hjl⟩
          have hjl' : (j : Int) < U.length := by omega
          have ej : IntKind.i64.wrap ((U.length : Int) - 1) = (j : Int) := by rw [wr_in (by have := hI.out; omega) (by have := hI.out; omega)]; omega
          have HJ := Lib.hid hj
          clear hj
          have i5 : Rn W2 (.slice a3 U.length c3) 47 6 U.length (rowA U) w.heap.size wr := inferInstance
          obtain ⟨g2, rfl, hA2⟩ := (Sl.ofRn (h := i5)).form hU0
          by_cases hs : pg N j = (((pm : Int) : Rat), ((pn : Int) : Rat))
          · have HV : Hid ((decide ((pg N j).1 = ((pm : Int) : Rat)) && decide ((pg N j).2 = ((pn : Int) : Rat))) = true) := Lib.hid (by rw [hs]; simp)
            clear hs
            go_wp2_with fail
            refine rgn [] [] fun hHeld => ?_
            refine tk 0 hHeld ?_
            refine tk 1 hHeld ?_
            refine tk 2 hHeld ?_
            refine tk 3 hHeld ?_
            refine tk 4 hHeld ?_
            refine tk 5 hHeld ?_
            refine tk 6 hHeld ?_
            refine tk 7 hHeld ?_
            refine tk 8 hHeld ?_
            refine tk 9 hHeld ?_
            refine tk 10 hHeld ?_
            refine st 11 fun K hK => ?_
            go_simp
            (with_reducible refine Calls.cE (refSameV (by omega) HV) ?_); intros
            refine hd hK ?_
            clear hHeld hK K
            intro hHeld
            refine tk 12 hHeld ?_
            refine tk 13 hHeld ?_
            refine dn ?_
            clear hHeld
            go_wp2
            go_roundw
            case rel => exact ⟨m, U, N, by go_num, Rn.cast2 inferInstance rfl rfl, inferInstance, Lib.hid ⟨hI.out.1, hI.out.2.1, by have := hI.out; omega⟩, inferInstance, inferInstance⟩
            case measure => simp [intOf]
          · have HV : Hid ((decide ((pg N j).1 = ((pm : Int) : Rat)) && decide ((pg N j).2 = ((pn : Int) : Rat))) = false) := Lib.hid (by
              rw [Prod.ext_iff] at hs
              simpa using hs)
            have HNE := Lib.hid hs
            clear hs
            go_wp2_with fail
            refine rgn [] [] fun hHeld => ?_
            refine tk 0 hHeld ?_
            refine tk 1 hHeld ?_
            refine tk 2 hHeld ?_
            refine tk 3 hHeld ?_
            refine tk 4 hHeld ?_
            refine tk 5 hHeld ?_
            refine tk 6 hHeld ?_
            refine tk 7 hHeld ?_
            refine tk 8 hHeld ?_
            refine tk 9 hHeld ?_
            refine tk 10 hHeld ?_
            refine st 11 fun K hK => ?_
            go_simp
            (with_reducible refine Calls.cE (refSameV (by omega) HV) ?_); intros
            refine hd hK ?_
            clear hHeld hK K
            intro hHeld
            refine tk 12 hHeld ?_
            refine tk 13 hHeld ?_
            refine dn ?_
            clear hHeld
            go_wp2_with (at_builtin; go_loud (refine app_rn1 (v := .slice (some ⟨g2, 0, none⟩) U.length c3) rfl (.tmp 92) (.tmp 94) 61 rfl Tryz.underlying61 info_q rfl (by decide) (by decide) (by decide) inferInstance rfl (rowA_nd _) rfl (by rfl) ?h1 ?h2 (by have := hI.out; omega) ?_); (case h1 => exact AV.one ⟨_, _, _, _, _, _, _, _, _, _, _, _, _, _⟩); (case h2 => exact AV.nd ⟨_, _, _, _, _, _, _, _, _, _, _, _, _, _⟩); intro g2 c2 w2 i9 i10 i11)
            go_roundw
            case rel => exact ⟨m, U ++ [⟨pgx, pax, plx, pcx, paax, pllx, pccx, pgy, pay, ply, pcy, paay, plly, pccy⟩], N ++ [(((pm : Int) : Rat), ((pn : Int) : Rat))], by go_num, Rn.cast2 (inferInstance) (by simp) (by rw [rowA_snoc]; rfl), PsQ.add (Nat.le_refl _) (Nat.le_refl _), Lib.hid ⟨Steps.snoc hI.out.1 (.inr (by rw [show N.length - 1 = j by have := HJ.out; have := i2.len; omega]; exact HNE.out)), IntL.snoc hI.out.2.1 (by omega) (by omega), by have := hI.out; rw [List.length_append, List.length_singleton]; omega⟩, inferInstance, inferInstance⟩
            case measure => simp [intOf]
      | zero =>
        have hU6 : U.length ≤ 6 := by have := hI.out; omega
        have hSt := Lib.hid hI.out.1
        have hIn := Lib.hid hI.out.2.1
        have HLO := Lib.hid (i1.lo 0 0)
        clear hI
        rw [show (((0 : Nat)) : Int) = 0 from rfl]
        go_wp2_with fail
        go_loopw [10] (fun o wx => ∃ (V : List AV) (M : List (Rat × Rat)), o = .slice a3 V.length c3 ∧ Hid (V.length ≤ c3) ∧ Sl wx (.slice a3 V.length c3) V.length (rowA V) wr ∧ PsQ wx V M 4 ∧ Hid (Steps M ∧ IntL M ∧ V.length ≤ 6) ∧ Kp wr wx) (fun o _ => slLen o)
        case atStart => exact ⟨U, N, rfl, Lib.hid hc1, Sl.ofRn (h := i1.here), i2, Lib.hid ⟨hSt.out, hIn.out, hU6⟩, inferInstance⟩
        case round =>
          obtain ⟨V, M, rfl, hVc, j1, j2, hI, j3⟩ := hrel
          have kx := Kp1.mk j3.out
          clear i1 i2 hU6 hSt hIn hc1
          have hV6 : V.length ≤ 6 := hI.out.2.2
          by_cases h1 : 1 < V.length
          · have h1' : 1 < (V.length : Int) := by omega
            obtain ⟨j, hj⟩ : ∃ j, V.length = j + 1 := ⟨V.length - 1, by omega⟩
            have hjl : j < V.length := by omega
            have h0l : 0 < V.length := by omega
            have lj : LtN j V.length := ⟨hjl⟩
            have l0 : LtN 0 V.length := ⟨h0l⟩
            have hjl' : (j : Int) < V.length := by omega
            have h0l' : (0 : Int) < V.length := by omega
            have ej : IntKind.i64.wrap ((V.length : Int) - 1) = (j : Int) := by rw [wr_in (by omega) (by omega)]; omega
            have hjc : (j : Int) ≤ c3 := by have := hVc.out; omega
            have HJ := Lib.hid hj
            clear hj
            obtain ⟨g2, rfl, hA2⟩ := j1.form h0l
            by_cases hs : pg M 0 = pg M j
            · have HV : Hid ((decide ((pg M 0).1 = (pg M j).1) && decide ((pg M 0).2 = (pg M j).2)) = true) := Lib.hid (by rw [hs]; simp)
              clear hs
              go_wp2_with fail
              refine rgn [] [] fun hHeld => ?_
              refine tk 0 hHeld ?_
              refine tk 1 hHeld ?_
              refine tk 2 hHeld ?_
              refine tk 3 hHeld ?_
              refine tk 4 hHeld ?_
              refine tk 5 hHeld ?_
              refine tk 6 hHeld ?_
              refine tk 7 hHeld ?_
              refine tk 8 hHeld ?_
              refine tk 9 hHeld ?_
              refine tk 10 hHeld ?_
              refine tk 11 hHeld ?_
              refine tk 12 hHeld ?_
              refine st 13 fun K hK => ?_
              go_simp
              (with_reducible refine Calls.cE (refSameV (by omega) HV) ?_); intros
              refine hd hK ?_
              clear hHeld hK K
              intro hHeld
              refine tk 14 hHeld ?_
              refine dn ?_
              clear hHeld
              go_wp2
              go_roundw
              case rel => exact ⟨V.take j, M.take j, by rw [show (V.take j).length = j by rw [List.length_take]; omega], Lib.hid (by rw [List.length_take]; omega), Sl.takeI (n := V.length) j (by omega), PsQ.take inferInstance j, Lib.hid ⟨hI.out.1.take j, hI.out.2.1.take j, by rw [List.length_take]; omega⟩, inferInstance⟩
              case measure => (simp only [slLen]; have := HJ.out; omega)
            · have HV : Hid ((decide ((pg M 0).1 = (pg M j).1) && decide ((pg M 0).2 = (pg M j).2)) = false) := Lib.hid (by
                rw [Prod.ext_iff] at hs
                simpa using hs)
              have HNE := Lib.hid (show ¬ pg M 0 = pg M (V.length - 1) by rw [show V.length - 1 = j by have := HJ.out; omega]; exact hs)
              clear hs
              go_wp2_with fail
              refine rgn [] [] fun hHeld => ?_
              refine tk 0 hHeld ?_
              refine tk 1 hHeld ?_
              refine tk 2 hHeld ?_
              refine tk 3 hHeld ?_
              refine tk 4 hHeld ?_
              refine tk 5 hHeld ?_
              refine tk 6 hHeld ?_
              refine tk 7 hHeld ?_
              refine tk 8 hHeld ?_
              refine tk 9 hHeld ?_
              refine tk 10 hHeld ?_
              refine tk 11 hHeld ?_
              refine tk 12 hHeld ?_
              refine st 13 fun K hK => ?_
              go_simp
              (with_reducible refine Calls.cE (refSameV (by omega) HV) ?_); intros
              refine hd hK ?_
              clear hHeld hK K
              intro hHeld
              refine tk 14 hHeld ?_
              refine dn ?_
              clear hHeld
              have HD := Lib.hid (show True from trivial)
              obtain ⟨dd, hdd⟩ : ∃ dd, dsc M M.length = dd := ⟨_, rfl⟩
              have hlN := j2.len
              have hle := dsc_le M M.length
              by_cases h3 : dd < 3
              · have h3' : (dd : Int) < 3 := by omega
                have HDD := Lib.hid hdd
                clear hdd hle hlN
                go_wp2_with (first
                  | (go_at_call 84; (with_reducible refine Calls.cLen (sortedC (V := V) (by omega) (by have := hI.out; omega)) ?_); intro y9 _ a9 c9; rw [HDD.out]))
                go_wp2_with fail
                with_reducible refine Calls.cPQ (refXyC (by omega)) ?_
                intro y1 _ gx1 ax1 lx1 cx1 aax1 llx1 ccx1 gy1 ay1 ly1 cy1 aay1 lly1 ccy1 _ _
                go_wp2_with fail
                with_reducible refine Calls.cPQ (refXyC (by omega)) ?_
                intro y2 _ gx2 ax2 lx2 cx2 aax2 llx2 ccx2 gy2 ay2 ly2 cy2 aay2 lly2 ccy2 _ _
                go_wp2_with fail
                with_reducible refine Calls.cPQ (refXyC (by omega)) ?_
                intro y3 _ gx3 ax3 lx3 cx3 aax3 llx3 ccx3 gy3 ay3 ly3 cy3 aay3 lly3 ccy3 _ _
                go_wp2_with fail
                go_ret
                exact RingRet.fin (V := [⟨gx1, ax1, lx1, cx1, aax1, llx1, ccx1, gy1, ay1, ly1, cy1, aay1, lly1, ccy1⟩, ⟨gx2, ax2, lx2, cx2, aax2, llx2, ccx2, gy2, ay2, ly2, cy2, aay2, lly2, ccy2⟩, ⟨gx3, ax3, lx3, cx3, aax3, llx3, ccx3, gy3, ay3, ly3, cy3, aay3, lly3, ccy3⟩]) (L := [(((0 : Int) : Rat), ((0 : Int) : Rat)), (((2 : Int) : Rat), ((0 : Int) : Rat)), (((0 : Int) : Rat), ((2 : Int) : Rat))]) (hs := Sl.ofBx (Bx.re rfl)) (hp := (PsQ.snoc (a := ⟨gx3, ax3, lx3, cx3, aax3, llx3, ccx3, gy3, ay3, ly3, cy3, aay3, lly3, ccy3⟩) (x := ((0 : Int) : Rat)) (y := ((2 : Int) : Rat)) (PsQ.snoc (a := ⟨gx2, ax2, lx2, cx2, aax2, llx2, ccx2, gy2, ay2, ly2, cy2, aay2, lly2, ccy2⟩) (x := ((2 : Int) : Rat)) (y := ((0 : Int) : Rat)) (PsQ.snoc (a := ⟨gx1, ax1, lx1, cx1, aax1, llx1, ccx1, gy1, ay1, ly1, cy1, aay1, lly1, ccy1⟩) (x := ((0 : Int) : Rat)) (y := ((0 : Int) : Rat)) PsQ.nil inferInstance inferInstance (Nat.le_refl _) (Nat.le_refl _)) inferInstance inferInstance (Nat.le_refl _) (Nat.le_refl _)) inferInstance inferInstance (Nat.le_refl _) (Nat.le_refl _))) ⟨ring3 (pne (by omega)) (pne (by omega)) (pne (by omega)), (IntL.snoc (IntL.snoc (IntL.snoc IntL.nil (by omega) (by omega)) (by omega) (by omega)) (by omega) (by omega)), (by simp)⟩ Lo.new
              · have h3' : ¬ ((dd : Int) < 3) := by omega
                have HDD := Lib.hid hdd
                have HLE := Lib.hid hle
                have HLN := Lib.hid hlN
                clear hdd hle hlN
                go_wp2_with (first
                  | (go_at_call 84; (with_reducible refine Calls.cLen (sortedC (V := V) (by omega) (by have := hI.out; omega)) ?_); intro y9 _ a9 c9; rw [HDD.out]))
                go_ret
                exact RingRet.fin (V := V) (L := M) ⟨Steps.ring hI.out.1 (by have := HDD.out; omega) (by rw [← HLN.out]; exact HNE.out), hI.out.2.1, hI.out.2.2⟩ (HLO.out.re _ _)
          · have h1' : ¬ (1 < (V.length : Int)) := by omega
            have h1d : decide (1 < V.length) = false := decide_eq_false h1
            have h1e : decide (1 < (V.length : Int)) = false := decide_eq_false h1'
            go_wp2_with fail
            refine rgn [] [] fun hHeld => ?_
            refine tk 0 hHeld ?_
            refine tk 1 hHeld ?_
            refine tk 2 hHeld ?_
            refine tk 3 hHeld ?_
            refine tkU 4 hHeld ?_
            refine tkU 5 hHeld ?_
            refine tkU 6 hHeld ?_
            refine tkU 7 hHeld ?_
            refine tkU 8 hHeld ?_
            refine tkU 9 hHeld ?_
            refine tkU 10 hHeld ?_
            refine tkU 11 hHeld ?_
            refine tkU 12 hHeld ?_
            refine tkU 13 hHeld ?_
            refine tk 14 hHeld ?_
            refine dn ?_
            clear hHeld
            have HD := Lib.hid (show True from trivial)
            obtain ⟨dd, hdd⟩ : ∃ dd, dsc M M.length = dd := ⟨_, rfl⟩
            have hlN := j2.len
            have hle := dsc_le M M.length
            by_cases h3 : dd < 3
            · have h3' : (dd : Int) < 3 := by omega
              have HDD := Lib.hid hdd
              clear hdd hle hlN
              go_wp2_with (first
                | (go_at_call 84; (with_reducible refine Calls.cLen (sortedC (V := V) (by omega) (by have := hI.out; omega)) ?_); intro y9 _ a9 c9; rw [HDD.out]))
              go_wp2_with fail
              with_reducible refine Calls.cPQ (refXyC (by omega)) ?_
              intro y1 _ gx1 ax1 lx1 cx1 aax1 llx1 ccx1 gy1 ay1 ly1 cy1 aay1 lly1 ccy1 _ _
              go_wp2_with fail
              with_reducible refine Calls.cPQ (refXyC (by omega)) ?_
              intro y2 _ gx2 ax2 lx2 cx2 aax2 llx2 ccx2 gy2 ay2 ly2 cy2 aay2 lly2 ccy2 _ _
              go_wp2_with fail
              with_reducible refine Calls.cPQ (refXyC (by omega)) ?_
              intro y3 _ gx3 ax3 lx3 cx3 aax3 llx3 ccx3 gy3 ay3 ly3 cy3 aay3 lly3 ccy3 _ _
              go_wp2_with fail
              go_ret
              exact RingRet.fin (V := [⟨gx1, ax1, lx1, cx1, aax1, llx1, ccx1, gy1, ay1, ly1, cy1, aay1, lly1, ccy1⟩, ⟨gx2, ax2, lx2, cx2, aax2, llx2, ccx2, gy2, ay2, ly2, cy2, aay2, lly2, ccy2⟩, ⟨gx3, ax3, lx3, cx3, aax3, llx3, ccx3, gy3, ay3, ly3, cy3, aay3, lly3, ccy3⟩]) (L := [(((0 : Int) : Rat), ((0 : Int) : Rat)), (((2 : Int) : Rat), ((0 : Int) : Rat)), (((0 : Int) : Rat), ((2 : Int) : Rat))]) (hs := Sl.ofBx (Bx.re rfl)) (hp := (PsQ.snoc (a := ⟨gx3, ax3, lx3, cx3, aax3, llx3, ccx3, gy3, ay3, ly3, cy3, aay3, lly3, ccy3⟩) (x := ((0 : Int) : Rat)) (y := ((2 : Int) : Rat)) (PsQ.snoc (a := ⟨gx2, ax2, lx2, cx2, aax2, llx2, ccx2, gy2, ay2, ly2, cy2, aay2, lly2, ccy2⟩) (x := ((2 : Int) : Rat)) (y := ((0 : Int) : Rat)) (PsQ.snoc (a := ⟨gx1, ax1, lx1, cx1, aax1, llx1, ccx1, gy1, ay1, ly1, cy1, aay1, lly1, ccy1⟩) (x := ((0 : Int) : Rat)) (y := ((0 : Int) : Rat)) PsQ.nil inferInstance inferInstance (Nat.le_refl _) (Nat.le_refl _)) inferInstance inferInstance (Nat.le_refl _) (Nat.le_refl _)) inferInstance inferInstance (Nat.le_refl _) (Nat.le_refl _))) ⟨ring3 (pne (by omega)) (pne (by omega)) (pne (by omega)), (IntL.snoc (IntL.snoc (IntL.snoc IntL.nil (by omega) (by omega)) (by omega) (by omega)) (by omega) (by omega)), (by simp)⟩ Lo.new
            · exfalso
              omega
end Go.Proofs.YtdlnoeegboapkaaGreatDoor
