/-
  Texts of this claim, joined: Rc3.
-/
import Derived.Test.YtdlnoeegboapkaaGreatDoorHKA
import Derived.Test.YtdlnoeegboapkaaGreatDoorHKB
/- geo.RingOf at a ring with a point that is not in normal form, or with an edge that has no length. printed by a small program (mkrc3.py). -/
namespace Go.Proofs.YtdlnoeegboapkaaGreatDoor
open Go.RowKit
set_option maxRecDepth 100000
set_option maxHeartbeats 40000000
set_option synthInstance.maxSize 100000
set_option synthInstance.maxHeartbeats 1000000
set_option linter.unusedVariables false

attribute [local go_sem] Oper.semAt_some
theorem ringOfBadO {w w0 w1 : World} {a : Option Addr} {n c : Nat} {V : List AV} {D : Nat → RD} [hs : SlO w (.slice a n c) V.length (rowA V) w0] [hp : PsL w V D] {aI : Addr} [hI0 : Snt w 4 aI w1] {i0 : Nat} (hV : V.length ≤ 10) (hS : ∀ i, i < V.length → smlP D 4 i) (h0 : i0 < V.length) (hN : ∀ i, i < i0 → nrmP V D i = true) (hB : nrmP V D i0 = false) :
    Calls Tryz.prog 77 #[.slice a n c] w (RErr w (.slice none 0 0) aI) := by
  obtain rfl := hs.len
  obtain ⟨g, off, rfl, hA⟩ := hs.form (by omega)
  have HN := Lib.hid hN
  have HS := Lib.hid hS
  have hI := hI0.here
  have HB : Hid ((nrmQ (av V i0).gx (D i0).x (D i0).xx && nrmQ (av V i0).gy (D i0).y (D i0).yy) = false) := Lib.hid hB
  have hno : ¬ (4096 < (V.length : Int)) := by omega
  have h10 : i0 < 10 := by omega
  clear hs hN hS hI0 hB
  go_enter Tryz.func77, Tryz.ntmps77
  go_wp2_with fail
  go_loopw [21, 4] (fun i o wr => ∃ (q : Nat) (U : List FV), i = .int .i64 (q : Int) ∧ q ≤ i0 ∧ Rn wr o 152 6 U.length (rowF U) (w.heap.size + 1 + 1) wr ∧ Hid (U.length = q) ∧ Bx wr w.heap.size 131 [.slice none 0 0] ∧ Bx wr (w.heap.size + 1) 36 [.nilIface] ∧ Kp w wr) (fun i _ _ => V.length - (intOf i).toNat)
  case atStart => exact ⟨0, [], rfl, by omega, Rn.nil (by simp), Lib.hid rfl, inferInstance, inferInstance, inferInstance⟩
  case round =>
    obtain ⟨q, U, rfl, hq, i1, hU, i3, i4, i5⟩ := hrel
    have kw := Kp1.mk i5.out
    have hlt : q < V.length := by omega
    have hlt' : (q : Int) < V.length := by omega
    have lq : LtN q V.length := ⟨hlt⟩
    have ew : IntKind.i64.wrap ((q : Int) + 1) = (q : Int) + 1 := wr_in (by omega) (by omega)
    obtain ⟨s1, s2, s3, s4⟩ := HS.out q hlt
    by_cases hlt0 : q < i0
    · have hn := HN.out q hlt0
      have HV : Hid ((nrmQ (av V q).gx (D q).x (D q).xx && nrmQ (av V q).gy (D q).y (D q).yy) = true) := Lib.hid hn
      simp only [nrmP, Bool.and_eq_true] at hn
      have cx : CA wr (.agg #[.bool (av V q).gx, .slice (av V q).ax (av V q).lx (av V q).cx, .slice (av V q).aax (av V q).llx (av V q).ccx]) _ 4 := CA.ofRL (inferInstance : RL wr _ (D q).x) (inferInstance : RL wr _ (D q).xx) hn.1 ⟨s1, s2⟩
      have cy : CA wr (.agg #[.bool (av V q).gy, .slice (av V q).ay (av V q).ly (av V q).cy, .slice (av V q).aay (av V q).lly (av V q).ccy]) _ 4 := CA.ofRL (inferInstance : RL wr _ (D q).y) (inferInstance : RL wr _ (D q).yy) hn.2 ⟨s3, s4⟩
      clear hn
      go_wp2_with (first
        | (go_at_call 142; (with_reducible refine Calls.cE (gNormalL (by omega) HV) ?_); intros)
        | (go_at_call 123; (with_reducible refine Calls.cPF (ptOfC (by omega)) ?_); intro w1 _ nx dx px ny dy py i7 i8)
        | (at_builtin; go_loud (refine app_rn1 (v := u4) rfl (.tmp 37) (.tmp 40) 131 rfl Tryz.underlying131 info_f rfl (by decide) (by decide) (by decide) inferInstance rfl (rowF_nd _) rfl (by rfl) ?h1 ?h2 (by first | omega | (have := hU.out; omega)) ?_); (case h1 => exact FV.one ⟨_, _, _, _, _, _⟩); (case h2 => exact FV.nd ⟨_, _, _, _, _, _⟩); intro g2 c2 w2 i9 i10 i11))
      go_roundw
      case rel => exact ⟨q + 1, U ++ [⟨nx, dx, px, ny, dy, py⟩], by go_num, by omega, Rn.cast2 (inferInstance) (by simp) (by rw [rowF_snoc]; rfl), Lib.hid (by rw [List.length_append, hU.out]; rfl), inferInstance, inferInstance, inferInstance⟩
      case measure => simp [intOf]; omega
    · obtain rfl : q = i0 := by omega
      obtain ⟨ao, co, rfl⟩ := i1.slice
      go_wp2_with (first
        | (go_at_call 142; (with_reducible refine Calls.cE (gNormalL (by omega) HB) ?_); intros))
      refine rgn [w.heap.size, w.heap.size + 1] [] fun hHeld => ?_
      refine tk 0 hHeld ?_
      refine tk 1 hHeld ?_
      refine st 2 fun K hK => ?_
      go_simp
      (with_reducible refine Calls.cStrR (itoaC h10) ?_); intro w5 _ sI hsI; have cs1 : ¬ (9223372036854775807 < 7 + sI.size) := (by omega); have cs2 : ¬ (9223372036854775807 < 7 + sI.size + 22) := (by omega)
      refine hd hK ?_
      clear hHeld hK K
      intro hHeld
      refine tk 3 hHeld ?_
      refine tk 4 hHeld ?_
      refine tk 5 hHeld ?_
      refine wpAnyT_ready (rs := [6, 8]) (by kernel_rfl) (by simp) ?_
      refine AllT.cons (by simp; rfl) (fun K hK => ?_) (AllT.cons (by simp; rfl) (fun K hK => ?_) AllT.nil)
      go_simp
      refine hd hK ?_
      clear hHeld hK K
      intro hHeld
      refine tk 7 hHeld ?_
      refine st 8 fun K hK => ?_
      go_simp
      refine hd hK ?_
      clear hHeld hK K
      intro hHeld
      refine st 9 fun K hK => ?_
      go_simp
      refine hd hK ?_
      clear hHeld hK K
      intro hHeld
      refine dn ?_
      clear hHeld
      go_wp2
      refine ret_se rfl Tryz.underlying131 rfl Tryz.underlying36 rfl rfl rfl rfl ?_
      exact RErr.fin
      go_simp
      refine hd hK ?_
      clear hHeld hK K
      intro hHeld
      refine st 6 fun K hK => ?_
      go_simp
      refine hd hK ?_
      clear hHeld hK K
      intro hHeld
      refine tk 7 hHeld ?_
      refine st 9 fun K hK => ?_
      go_simp
      refine hd hK ?_
      clear hHeld hK K
      intro hHeld
      refine dn ?_
      clear hHeld
      go_wp2
      refine ret_se rfl Tryz.underlying131 rfl Tryz.underlying36 rfl rfl rfl rfl ?_
      exact RErr.fin
theorem ringOfEdgeO {w w0 w9 : World} {a : Option Addr} {n c : Nat} {V : List AV} {L : List (Rat × Rat)} {k : Nat} [hs : SlO w (.slice a n c) V.length (rowA V) w0] [hp : PsA w V L k] {aR : Addr} [hR0 : Snt w 3 aR w9] (b : k ≤ 19000) (hV : V.length ≤ 10) (h3 : 3 ≤ dsc L L.length) (hE : ∃ i, i < L.length ∧ pg L i = pg L ((i + 1) % L.length)) :
    Calls Tryz.prog 77 #[.slice a n c] w (RErr w (.slice none 0 0) aR) := by
  obtain rfl := hs.len
  have hlen := Lib.hid hp.len
  have hpos : 0 < V.length := by rw [hlen.out]; have := dsc_le L L.length; omega
  have H3 := Lib.hid h3
  have HE := Lib.hid hE
  have hR := hR0.here
  clear h3 hE hR0
  obtain ⟨g, off, rfl, hA⟩ := hs.form hpos
  have hno : ¬ (4096 < (V.length : Int)) := by omega
  refine calls_marks Tryz.func77 rfl ?_
  simp only [Tryz.ntmps77, List.size_toArray, List.length_cons, List.length_nil, Nat.reduceAdd, Nat.reduceSub, Array.replicate_succ, Array.replicate_zero, List.push_toArray, List.append_toArray, List.nil_append, List.cons_append]
  go_wp2_with fail
  go_loopw [21, 4] (fun i o wr => ∃ (q : Nat) (U : List FV), i = .int .i64 (q : Int) ∧ q ≤ V.length ∧ Rn wr o 152 6 U.length (rowF U) (w.heap.size + 1 + 1) wr ∧ Hid (U.length = q) ∧ PsF wr U (L.take q) (k + 2) ∧ Bx wr w.heap.size 131 [.slice none 0 0] ∧ Bx wr (w.heap.size + 1) 36 [.nilIface] ∧ Kp w wr) (fun i _ _ => V.length - (intOf i).toNat)
  case atStart => exact ⟨0, [], rfl, by omega, Rn.nil (by simp), Lib.hid rfl, PsF.nil, inferInstance, inferInstance, inferInstance⟩
  case round =>
    obtain ⟨q, U, rfl, hq, i1, hU, i2, i3, i4, i5⟩ := hrel
    have kw := Kp1.mk i5.out
    by_cases hlt : q < V.length
    · have hlt' : (q : Int) < V.length := by omega
      have lq : LtN q V.length := ⟨hlt⟩
      have ew : IntKind.i64.wrap ((q : Int) + 1) = (q : Int) + 1 := wr_in (by omega) (by omega)
      go_wp2_with (first
        | (go_at_call 142; (with_reducible refine Calls.cE (gNormalA (by omega)) ?_); intros)
        | (go_at_call 123; (with_reducible refine Calls.cPF (ptOfC (by omega)) ?_); intro w1 _ nx dx px ny dy py i7 i8)
        | (at_builtin; go_loud (refine app_rn1 (v := u4) rfl (.tmp 37) (.tmp 40) 131 rfl Tryz.underlying131 info_f rfl (by decide) (by decide) (by decide) inferInstance rfl (rowF_nd _) rfl (by rfl) ?h1 ?h2 (by first | omega | (have := hU.out; omega)) ?_); (case h1 => exact FV.one ⟨_, _, _, _, _, _⟩); (case h2 => exact FV.nd ⟨_, _, _, _, _, _⟩); intro g2 c2 w2 i9 i10 i11))
      go_roundw
      case rel => exact ⟨q + 1, U ++ [⟨nx, dx, px, ny, dy, py⟩], by go_num, by omega, Rn.cast2 (inferInstance) (by simp) (by rw [rowF_snoc]; rfl), Lib.hid (by rw [List.length_append, hU.out]; rfl), by rw [take_pg (by have := hlen.out; omega)]; exact PsF.add (by first | omega | simp) (by first | omega | simp), inferInstance, inferInstance, inferInstance⟩
      case measure => simp [intOf]; omega
    · obtain rfl : q = V.length := by omega
      rw [List.take_of_length_le (by have := hlen.out; omega)] at i2
      have hUl : Hid (U.length = L.length) := Lib.hid (hU.out.trans hlen.out)
      have hU4 : U.length ≤ 4096 := by rw [hU.out]; omega
      have hU0 : 0 < U.length := by rw [hU.out]; exact hpos
      clear hU hs hq hlt hA
      obtain ⟨a3, c3, rfl⟩ := i1.slice
      obtain ⟨g2, rfl, hA2⟩ := (Sl.ofRn (h := i1)).form hU0
      go_wp2_with fail
      go_loopw [45, 7] (fun i d wx => ∃ (q m : Nat), i = .int .i64 (q : Int) ∧ q ≤ U.length ∧ d = .int .i64 (m : Int) ∧ Hid (min 3 (dsc L q) = m) ∧ Kp wr wx) (fun i _ _ => U.length - (intOf i).toNat)
      case atStart => exact ⟨0, 0, rfl, by omega, rfl, Lib.hid rfl, inferInstance⟩
      case round =>
        obtain ⟨q, m, rfl, hq, rfl, hm, j1⟩ := hrel
        have kx := Kp1.mk j1.out
        have hm3 : m ≤ 3 := by rw [← hm.out]; omega
        by_cases hlt : q < U.length
        · have hlt' : (q : Int) < U.length := by omega
          have lq : LtN q U.length := ⟨hlt⟩
          have ew : IntKind.i64.wrap ((q : Int) + 1) = (q : Int) + 1 := wr_in (by omega) (by omega)
          have em : IntKind.i64.wrap ((m : Int) + 1) = (m : Int) + 1 := wr_in (by omega) (by omega)
          by_cases h3 : m < 3
          · have h3' : (m : Int) < 3 := by omega
            by_cases hn : pg L q ∈ L.take q
            · go_wp2_with (first
                | (go_at_call 144; go_loud ((with_reducible refine Calls.cFirst (firstC (V := U) (by omega) (by omega) ⟨q, hlt, rfl⟩) ?_); intro w1 _ m1 hm1); have hne : ¬ ((m1 : Int) = (q : Int)) := fun e => (FirstAt.new (by rw [← hUl.out]; exact hlt) hm1).1 (by omega) hn; have hne2 : ((m1 : Int) == (q : Int)) = false := beq_false_of_ne hne; clear hm1))
              go_roundw
              case rel => exact ⟨q + 1, m, by go_num, by omega, rfl, Lib.hid (by have h2 := hm.out; simp only [dsc, if_pos hn]; omega), inferInstance⟩
              case measure => simp [intOf]; omega
            · go_wp2_with (first
                | (go_at_call 144; (with_reducible refine Calls.cFirst (firstC (V := U) (by omega) (by omega) ⟨q, hlt, rfl⟩) ?_); intro w1 _ m1 hm1; obtain rfl : m1 = q := (FirstAt.new (by rw [← hUl.out]; exact hlt) hm1).2 hn; clear hm1))
              go_roundw
              case rel => exact ⟨m1 + 1, m + 1, by go_num, by omega, by go_num, Lib.hid (by have h2 := hm.out; simp only [dsc, if_neg hn]; omega), inferInstance⟩
              case measure => simp [intOf]; omega
          · obtain rfl : m = 3 := by omega
            go_wp2_with fail
            go_roundw
            case rel => exact ⟨q + 1, 3, by go_num, by omega, rfl, Lib.hid (by have h2 := hm.out; have := dsc_mono L (show q ≤ q + 1 by omega); omega), inferInstance⟩
            case measure => simp [intOf]; omega
        · obtain rfl : q = U.length := by omega
          have h3 : m = 3 := by have := H3.out; rw [← hUl.out] at this; have := hm.out; omega
          subst h3
          have bz1 : Bx wr w.heap.size 131 [.slice none 0 0] := inferInstance
          have bz2 : Bx wr (w.heap.size + 1) 36 [.nilIface] := inferInstance
          go_wp2_with (first
            | (go_at_call 145; (with_reducible refine Calls.cEdges edgesC ?_); intro w1 _ br _))
          have hsz : w.heap.size ≤ w1.heap.size := (inferInstance : Kp w w1).out.size
          have ge1 : Ge w w1.heap.size := ⟨hsz⟩
          refine range_edges2 _ (n := 5) (by omega) rfl (by omega) (V := U) (Br := br) (g := g2) (c := c3) rfl (fun T x b => (((T.setIfInBounds 70 (.int .i64 (x.val : Int))).setIfInBounds 71 (.agg (edL U x.val).toArray)).setIfInBounds 10 (.int .i64 (x.val : Int))).setIfInBounds 11 (.pointer (some ⟨b, 0, none⟩)))
            (fun pre W => Below w1.heap.size w1 W ∧ Hid (∀ i ∈ pre, pg L i.val ≠ pg L ((i.val + 1) % U.length))) (fun C _ W => C = .ret ∧ Below w.heap.size w W ∧ Bx W w.heap.size 131 [.slice none 0 0] ∧ ∃ be s, Bx W (w.heap.size + 1) 36 [.iface 114 (.pointer (some ⟨be, 0, none⟩))] ∧ Bx W be 116 [.iface 365 (.pointer (some aR)), .int .i64 0, .int .i64 0, .string s]) (OwnFrom.and (ownFrom_below (Nat.le_refl _) (Nat.le_refl _)) (fun _ _ _ _ h _ _ => h)) ?own2 ⟨Below.refl _ _, Lib.hid (fun i hi => nomatch hi)⟩ ?assign (fun _ _ _ h k => ⟨blw_trans h.1 k.out, h.2⟩) (fun _ _ h => h.1.size) ?body ?done ?stop
          case own2 =>
            intro C
            rintro pre W W' row ⟨h1, h2, h3, be, s, h4, h5⟩ hg hr
            have nc : Nc1 W W' := Nc1.of hg (fun r e => (hr r e).2)
            exact ⟨h1, ownFrom_below (Nat.le_refl _) hsz pre W W' row h2 hg hr, inferInstance, be, s, inferInstance, inferInstance⟩
          case assign =>
            intro l pre x W K hI hK
            simp only [encE, edL, List.zip_toArray, List.zip_cons_cons, List.zip_nil_right, List.foldl_toArray, List.foldl_cons, List.foldl_nil, List.setIfInBounds_toArray, List.set_cons_zero, List.set_cons_succ]
            simp only [edL, List.setIfInBounds_toArray, List.set_cons_zero, List.set_cons_succ] at hK
            gi_wp2
            refine hK _ _ rfl ?_ ?_
            · infer_instance
            · exact Bx.re rfl
          case body =>
            rintro l pre x b W ⟨hI, hP⟩ hb hx hlt9
            have kw1 : Kp1 w1 W := ⟨hI⟩
            obtain ⟨m, hm0⟩ : ∃ m, (x.val + 1) % U.length = m := ⟨_, rfl⟩
            have hxl : x.val < U.length := x.isLt
            have h10 : x.val < 10 := by have := hUl.out; have := hlen.out; omega
            have lq : LtN x.val U.length := ⟨x.isLt⟩
            have lm : LtN m U.length := ⟨by rw [← hm0]; exact Nat.mod_lt _ (by omega)⟩
            dsimp only [edL] at hx ⊢
            rw [hm0] at hx ⊢
            simp only [List.setIfInBounds_toArray, List.set_cons_zero, List.set_cons_succ]
            by_cases hq : pg L x.val = pg L m
            · have hv : Hid (decide (((pg L x.val).1, (pg L x.val).2) = ((pg L m).1, (pg L m).2)) = true) := Lib.hid (decide_eq_true hq)
              clear hq hm0
              generalize hxv : x.val = j at *
              gi_wp2_with (first
                | (refine ⟨trivial, ?_⟩; gi_at_call 108; (refine inR ?_); (with_reducible refine Calls.cE (ptEqualV (by omega) hv) ?_); intros))
              gi_region_with (first
                | (refine ⟨trivial, ?_⟩; gi_at_call 143; (refine inR ?_); (with_reducible refine Calls.cStrR (itoaC h10) ?_); intro w5 _ sI hsI; have cs1 : ¬ (9223372036854775807 < 21 + sI.size) := (by omega); have cs2 : ¬ (9223372036854775807 < 21 + sI.size + 14) := (by omega)))
              all_goals
                gi_wp2
                exact ⟨(inferInstance : Keo W _).out.from _, rfl, (inferInstance : Kp w _).out, Bx.re rfl, _, _, Bx.re rfl, Bx.re rfl⟩
            · have hv : Hid (decide (((pg L x.val).1, (pg L x.val).2) = ((pg L m).1, (pg L m).2)) = false) := Lib.hid (decide_eq_false hq)
              have hq2 : Hid (∀ i ∈ pre ++ [x], pg L i.val ≠ pg L ((i.val + 1) % U.length)) := Lib.hid (fun i hi => by
                rcases List.mem_append.1 hi with h | h
                · exact hP.out i h
                · obtain rfl : i = x := by simpa using h
                  rw [hm0]; exact hq)
              clear hq hm0
              gi_wp2_with (first
                | (refine ⟨trivial, ?_⟩; gi_at_call 108; (refine inR ?_); (with_reducible refine Calls.cE (ptEqualV (by omega) hv) ?_); intros))
              exact ⟨keepsK inferInstance, ⟨(inferInstance : Kp W _).out.size, fun y => inferInstance, fun y => inferInstance⟩, blw_trans hI (inferInstance : Kp W _).out, hq2⟩
          case done =>
            rintro D W hD ⟨hI, hP⟩ hK
            obtain ⟨i, hi, he⟩ := HE.out
            rw [← hUl.out] at hi he
            exact absurd he (hP.out ⟨i, hi⟩ (List.mem_finRange _))
          case stop =>
            rintro D C pre W hD _ ⟨rfl, hI, hb1, be, s, hb2, hb3⟩ hK
            have kw : Kp1 w W := ⟨hI⟩
            have gd : Ge w D := ⟨Nat.le_trans hsz hD⟩
            gi_wp2
            refine retM_mark (D := D) rfl hK ?_
            have kd : Dp1 W (W.putObj D (.deferred none)) D := ⟨rfl, _, hK⟩
            refine ret_se rfl Tryz.underlying131 rfl Tryz.underlying36 rfl rfl rfl rfl ?_
            exact RErr.fin
end Go.Proofs.YtdlnoeegboapkaaGreatDoor
