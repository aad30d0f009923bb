/-
  Texts of this claim, joined: LawRL.
-/
import Derived.Test.YtdlnoeegboapkaaGreatDoorRS
/- The law RingLimit: its walk. printed by a small program (mklawr1.py). -/
namespace Go.Proofs.YtdlnoeegboapkaaGreatDoor
open Go.RowKit
set_option maxRecDepth 100000
set_option maxHeartbeats 40000000
set_option synthInstance.maxSize 100000
set_option synthInstance.maxHeartbeats 1000000
set_option linter.unusedVariables false

theorem ringLimit_walk (a0 : Int) (w : World) (w0 : (Lit.int .u8 a0).wf = true) (hL : laidMetH Tryz.prog laid9 w) :
    Calls Tryz.prog 4 #[.int .u8 a0] w fun e w' => e = .returned (.bool true) ∧ Below w.heap.size w w' := by
  obtain ⟨aI, aR, aL, sI, sR, sL⟩ := sents9 hL
  clear hL sI
  obtain ⟨m, rfl, hm⟩ : ∃ m : Nat, a0 = (m : Int) ∧ m ≤ 255 := by
    have h2 : 0 ≤ a0 ∧ a0 ≤ 255 := by simpa [Lit.wf, IntKind.min, IntKind.max, IntKind.signed, IntKind.bits] using w0
    exact ⟨a0.toNat, by omega, by omega⟩
  clear w0
  have ec : IntKind.i64.wrap (m : Int) = (m : Int) := wr_in (by omega) (by omega)
  have ec2 : IntKind.i64.wrap (3996 + (m : Int)) = 3996 + (m : Int) := wr_in (by omega) (by omega)
  go_enter Tryz.func4, Tryz.ntmps4
  go_wp2_with fail
  go_loopw [4, 3] (fun i o wr => ∃ (q : Nat) (U : List AV), i = .int .i64 (q : Int) ∧ q ≤ 3996 + m ∧ Rn wr o 31 6 U.length (rowA U) w.heap.size wr ∧ Hid (U.length = q) ∧ PsA wr U (zig q) 5 ∧ Kp w wr) (fun i _ _ => 3996 + m - (intOf i).toNat)
  case atStart => exact ⟨0, [], rfl, by omega, Rn.nil (Nat.le_refl _), Lib.hid rfl, PsA.nil, inferInstance⟩
  case round =>
    obtain ⟨q, U, rfl, hq, i1, hU, i2, i3⟩ := hrel
    have kw := Kp1.mk i3.out
    by_cases hlt : q < 3996 + m
    · have hlt' : (q : Int) < 3996 + (m : Int) := by omega
      have ew : IntKind.i64.wrap ((q : Int) + 1) = (q : Int) + 1 := wr_in (by omega) (by omega)
      have er : ((q : Int)).tmod 2 = ((q % 2 : Nat) : Int) := (Int.ofNat_tmod q 2).symm
      obtain ⟨r, hr⟩ : ∃ r : Nat, q % 2 = r := ⟨_, rfl⟩
      rw [hr] at er
      have hr2 : r ≤ 1 := by omega
      have HR := Lib.hid hr
      clear hr
      go_wp2_with (first
        | (go_at_call 22; (with_reducible refine Calls.cPQ (refXyC (by omega)) ?_); intros)
        | (go_at_call 21; (with_reducible refine Calls.cPA (toPC (by omega)) ?_); intro w1 _ gx ax lx cx aax llx ccx gy ay ly cy aay lly ccy i7 i8)
        | (at_builtin; go_loud (refine app_rn1 (v := u3) rfl (.tmp 13) (.tmp 19) 56 rfl Tryz.underlying56 info_a rfl (by decide) (by decide) (by decide) inferInstance rfl (rowA_nd _) rfl (by rfl) ?h1 ?h2 (by first | omega | (have := hU.out; omega)) ?_); (case h1 => exact AV.one ⟨_, _, _, _, _, _, _, _, _, _, _, _, _, _⟩); (case h2 => exact AV.nd ⟨_, _, _, _, _, _, _, _, _, _, _, _, _, _⟩); intro g2 c2 w2 i9 i10 i11))
      go_roundw
      case rel => exact ⟨q + 1, U ++ [⟨gx, ax, lx, cx, aax, llx, ccx, gy, ay, ly, cy, aay, lly, ccy⟩], by go_num, by omega, Rn.cast2 (inferInstance) (by simp) (by rw [rowA_snoc]; rfl), Lib.hid (by rw [List.length_append, hU.out]; rfl), by rw [zig_succ, HR.out]; exact PsA.add (by omega) (by omega), inferInstance⟩
      case measure => simp [intOf]; omega
    · obtain rfl : q = 3996 + m := by omega
      obtain ⟨a3, c3, rfl⟩ := i1.slice
      have hlen : U.length = 3996 + m := hU.out
      by_cases h4 : 4096 < 3996 + m
      · have h5 : 4096 < U.length := by omega
        have h5' : 4096 < (U.length : Int) := by omega
        have H5 := Lib.hid h5
        clear hlen hq hlt hm h4 h5 i2
        go_wp2_with (first
          | (go_at_call 23; (with_reducible refine Calls.cOErr (checkLimit H5.out) ?_); intros)
          | (go_at_call 24; (with_reducible refine Calls.cE known09C ?_); intros)
          | (go_at_call 18; (with_reducible refine Calls.cS isSameC ?_)))
        go_ret
        exact E.fin rfl
      · have h5 : U.length ≤ 4096 := by omega
        have h5' : ¬ (4096 < (U.length : Int)) := by omega
        have h3 : 3 ≤ 3996 + m := by omega
        have HZ := Lib.hid (zig_ok h3)
        clear hlen hq hlt hm h4 h3
        go_wp2_with (first
          | (go_at_call 23; (with_reducible refine Calls.cE (checkOk (V := U) (by omega) h5 HZ.out) ?_); intros)
          | (go_at_call 24; (with_reducible refine Calls.cE known09C ?_); intros)
          | (go_at_call 18; (with_reducible refine Calls.cS isSameC ?_)))
        go_ret
        exact E.fin rfl
end Go.Proofs.YtdlnoeegboapkaaGreatDoor
