/-
  Texts of this claim, joined: Rg13, Rg14.
-/
import Derived.Test.YtdlnoeegboapkaaGreatDoorCT
/- Segments of package geo written; ring.Edges. printed by a small program (mkrg13.py). -/
namespace Go.Proofs.YtdlnoeegboapkaaGreatDoor
open Go.RowKit
set_option maxRecDepth 100000
set_option maxHeartbeats 40000000
set_option synthInstance.maxSize 100000
set_option synthInstance.maxHeartbeats 1000000
set_option linter.unusedVariables false

theorem take_fg {L : List FG} {q : Nat} (h : q < L.length) : L.take (q + 1) = L.take q ++ [⟨(fg L q).a, (fg L q).b, (fg L q).c, (fg L q).lo, (fg L q).hi⟩] := by
  rw [List.take_succ_eq_append_getElem h, fg_get h]
/-- A span with both ends is returned. -/
def SpARet (w : World) (x y : Rat) (k : Nat) (e : Ending) (w' : World) : Prop := ∃ gu au lu cu aau llu ccu gv av lv cv aav llv ccv, e = .returned (.agg #[.bool gu, .slice au lu cu, .slice aau llu ccu, .bool gv, .slice av lv cv, .slice aav llv ccv, .bool false, .bool false]) ∧ CA w' (.agg #[.bool gu, .slice au lu cu, .slice aau llu ccu]) x k ∧ CA w' (.agg #[.bool gv, .slice av lv cv, .slice aav llv ccv]) y k ∧ Below w.heap.size w w'
theorem Calls.cSpA {P : Program} {f : FuncId} {args : Array Value} {w : World} {x y : Rat} {k : Nat} {K : Ending → World → Prop} (h : Calls P f args w (SpARet w x y k))
    (hK : ∀ w' [Kp1 w w'] (gu : Bool) (au : Option Addr) (lu : Nat) (cu : Nat) (aau : Option Addr) (llu : Nat) (ccu : Nat) (gv : Bool) (av : Option Addr) (lv : Nat) (cv : Nat) (aav : Option Addr) (llv : Nat) (ccv : Nat) [CA w' (.agg #[.bool gu, .slice au lu cu, .slice aau llu ccu]) x k] [CA w' (.agg #[.bool gv, .slice av lv cv, .slice aav llv ccv]) y k], K (.returned (.agg #[.bool gu, .slice au lu cu, .slice aau llu ccu, .bool gv, .slice av lv cv, .slice aav llv ccv, .bool false, .bool false])) w') : Calls P f args w K := by
  refine h.mono ?_
  rintro e w' ⟨gu, au, lu, cu, aau, llu, ccu, gv, av, lv, cv, aav, llv, ccv, rfl, hx, hy, hb⟩
  exact @hK w' ⟨hb⟩ gu au lu cu aau llu ccu gv av lv cv aav llv ccv hx hy
theorem SpARet.fin {w w' : World} {gu : Bool} {au : Option Addr} {lu : Nat} {cu : Nat} {aau : Option Addr} {llu : Nat} {ccu : Nat} {gv : Bool} {av : Option Addr} {lv : Nat} {cv : Nat} {aav : Option Addr} {llv : Nat} {ccv : Nat} {x x' y y' : Rat} {k kx ky : Nat} [b : Kp w w'] [hx : CA w' (.agg #[.bool gu, .slice au lu cu, .slice aau llu ccu]) x kx] [hy : CA w' (.agg #[.bool gv, .slice av lv cv, .slice aav llv ccv]) y ky] (ex : x = x') (mx : kx ≤ k) (ey : y = y') (my : ky ≤ k) : SpARet w x' y' k (.returned (.agg #[.bool gu, .slice au lu cu, .slice aau llu ccu, .bool gv, .slice av lv cv, .slice aav llv ccv, .bool false, .bool false])) w' :=
  ⟨_, _, _, _, _, _, _, _, _, _, _, _, _, _, rfl, hx.cast ex mx, hy.cast ey my, b.out⟩
theorem ivApiC {w : World} {nu : Int} {du : Int} {pu : Option Addr} {nv : Int} {dv : Int} {pv : Option Addr} {x y : Rat} {k : Nat} [hx : CF w (.agg #[.int .i64 nu, .int .i64 du, .pointer pu]) x k] [hy : CF w (.agg #[.int .i64 nv, .int .i64 dv, .pointer pv]) y k] (b : k ≤ 300000) :
    Calls Tryz.prog 206 #[.agg #[.int .i64 nu, .int .i64 du, .pointer pu, .int .i64 nv, .int .i64 dv, .pointer pv, .bool false, .bool false]] w (SpARet w x y k) := by
  go_enter Tryz.func206, Tryz.ntmps206
  go_wp2_with (first
    | (go_at_call 92; (with_reducible refine Calls.cA (rApiC (by omega)) ?_); intros))
  refine ret_bx rfl Tryz.underlying158 rfl (by kernel_rfl) rfl rfl rfl ?_
  exact SpARet.fin rfl (by omega) rfl (by omega)
theorem frApiC {w : World} {nx : Int} {dx : Int} {px : Option Addr} {ny : Int} {dy : Int} {py : Option Addr} {nz : Int} {dz : Int} {pz : Option Addr} {nu : Int} {du : Int} {pu : Option Addr} {nv : Int} {dv : Int} {pv : Option Addr} {a b c : Int} {lo hi : Rat} {k : Nat} [hx : CF w (.agg #[.int .i64 nx, .int .i64 dx, .pointer px]) (a : Rat) k] [hy : CF w (.agg #[.int .i64 ny, .int .i64 dy, .pointer py]) (b : Rat) k] [hz : CF w (.agg #[.int .i64 nz, .int .i64 dz, .pointer pz]) (c : Rat) k] [hu : CF w (.agg #[.int .i64 nu, .int .i64 du, .pointer pu]) lo k] [hv : CF w (.agg #[.int .i64 nv, .int .i64 dv, .pointer pv]) hi k] (hk : k ≤ 300000) :
    Calls Tryz.prog 150 #[.agg #[.int .i64 nx, .int .i64 dx, .pointer px, .int .i64 ny, .int .i64 dy, .pointer py, .int .i64 nz, .int .i64 dz, .pointer pz, .int .i64 nu, .int .i64 du, .pointer pu, .int .i64 nv, .int .i64 dv, .pointer pv, .bool false, .bool false]] w (FhVRet w ⟨a, b, c, lo, hi⟩ k) := by
  go_enter Tryz.func150, Tryz.ntmps150
  go_wp2_with fail
  refine rgn [w.heap.size + 1] [] fun hHeld => ?_
  refine tk 0 hHeld ?_
  refine tk 1 hHeld ?_
  refine tk 3 hHeld ?_
  refine tk 4 hHeld ?_
  refine st 2 fun K hK => ?_
  go_simp
  (with_reducible refine Calls.cLZ (lnApiC (by omega)) ?_); intros
  refine hd hK ?_
  clear hHeld hK K
  intro hHeld
  refine st 5 fun K hK => ?_
  go_simp
  (with_reducible refine Calls.cSpA (ivApiC (k := k) (by omega)) ?_); intros
  refine hd hK ?_
  clear hHeld hK K
  intro hHeld
  refine tk 6 hHeld ?_
  refine st 7 fun K hK => ?_
  go_simp
  refine hd hK ?_
  clear hHeld hK K
  intro hHeld
  refine dn ?_
  clear hHeld
  go_wp2
  refine ret_bx rfl Tryz.underlying160 rfl (by kernel_rfl) rfl rfl rfl ?_
  exact FhVRet.fin (by simp) (by omega) (by simp) (by omega) (by simp) (by omega) rfl (by omega) rfl (by omega)
end Go.Proofs.YtdlnoeegboapkaaGreatDoor

/- Lists of segments written; ring.Edges. printed by a small program (mkrg13.py). -/
namespace Go.Proofs.YtdlnoeegboapkaaGreatDoor
open Go.RowKit
set_option maxRecDepth 100000
set_option maxHeartbeats 40000000
set_option synthInstance.maxSize 100000
set_option synthInstance.maxHeartbeats 1000000
set_option linter.unusedVariables false

/-- A load, by what is known of it. -/
theorem step_load {W : World} {ops : Array Oper} {rest : List Oper} {o : Oper} {a : Act} {Q : Exit → Act → World → Prop} {t : TypeId} {x : Operand} {ad : Addr} {v : Value} (hg : o.guard = none) (hop : o.op = .load t x)
    (hx : a.eval x = .pointer (some ad)) (hl : (loadVar t ad).run Tryz.prog W = .ok v W) (hK : wpList Tryz.prog ops Q rest (a.put o.dst v) W) : wpList Tryz.prog ops Q (o :: rest) a W := by
  refine wpList_plain hg fun K hKK => ?_
  unfold Oper.wp execOp
  simp [hop, hx, Instr.loadAt, Instr.sureAddr, hl, Result.andThen]
  exact hKK _ _ hK
theorem writeFrsC {w w0 : World} {a : Option Addr} {n c : Nat} {V : List GV} {L : List FG} {k : Nat} [hs : Sl w (.slice a n c) V.length (rowG V) w0] [hp : FsG w V L k] (b : k ≤ 300000) (hV : V.length ≤ 900000) :
    Calls Tryz.prog 89 #[.slice a n c] w (FsHRet w L k) := by
  obtain rfl := hs.len
  have hlen := Lib.hid hp.len
  go_enter Tryz.func89, Tryz.ntmps89
  go_wp2_with fail
  go_loopw [8, 3] (fun i o wr => ∃ (q : Nat) (U : List HV), i = .int .i64 (q : Int) ∧ q ≤ V.length ∧ Rn wr o 160 14 U.length (rowH U) w.heap.size wr ∧ Hid (U.length = q) ∧ FsH wr U (L.take q) k ∧ Kp w wr) (fun i _ _ => V.length - (intOf i).toNat)
  case atStart => exact ⟨0, [], rfl, by omega, Rn.nil (Nat.le_refl _), Lib.hid rfl, FsH.nil, inferInstance⟩
  case round =>
    obtain ⟨q, U, rfl, hq, i1, hU, i2, i3⟩ := hrel
    have kw := Kp1.mk i3.out
    by_cases hlt : q < V.length
    · obtain ⟨g, rfl, hA⟩ := hs.form (by omega)
      have hlt' : (q : Int) < V.length := by omega
      have lq : LtN q V.length := ⟨hlt⟩
      have ew : IntKind.i64.wrap ((q : Int) + 1) = (q : Int) + 1 := wr_in (by omega) (by omega)
      go_wp2_with (first
        | (with_reducible refine step_load (t := 182) (x := .tmp 10) rfl rfl rfl (load_G (k := q) hlt) ?_)
        | (go_at_call 150; (with_reducible refine Calls.cFhV (frApiC (k := k) (by omega)) ?_); intro w1 _ gx ax lx cx gy ay ly cy gz az lz cz gu au lu cu aau llu ccu gv av lv cv aav llv ccv _ _ _ _ _)
        | (at_builtin; go_loud (refine app_rn1 (v := u3) rfl (.tmp 12) (.tmp 15) 73 rfl Tryz.underlying73 info_hr rfl (by decide) (by decide) (by decide) inferInstance rfl (rowH_nd _) rfl (by rfl) ?h1 ?h2 (by first | omega | (have := hU.out; omega)) ?_); (case h1 => exact HV.one ⟨_, _, _, _, _, _, _, _, _, _, _, _, _, _, _, _, _, _, _, _, _, _, _, _, _, _⟩); (case h2 => exact HV.nd ⟨_, _, _, _, _, _, _, _, _, _, _, _, _, _, _, _, _, _, _, _, _, _, _, _, _, _⟩); intro g2 c2 w2 i9 i10 i11))
      go_roundw
      case rel => exact ⟨q + 1, U ++ [⟨gx, ax, lx, cx, gy, ay, ly, cy, gz, az, lz, cz, gu, au, lu, cu, aau, llu, ccu, gv, av, lv, cv, aav, llv, ccv⟩], by go_num, by omega, Rn.cast2 (inferInstance) (by simp) (by rw [rowH_snoc]; rfl), Lib.hid (by rw [List.length_append, hU.out]; rfl), by rw [take_fg (by have := hlen.out; omega)]; exact FsH.add (Nat.le_refl _) (Nat.le_refl _) (Nat.le_refl _) (Nat.le_refl _) (Nat.le_refl _), inferInstance⟩
      case measure => simp [intOf]; omega
    · obtain rfl : q = V.length := by omega
      rw [List.take_of_length_le (by have := hlen.out; omega)] at i2
      obtain ⟨a3, c3, rfl⟩ := i1.slice
      go_wp2_with fail
      go_ret
      exact FsHRet.fin (V := U) rfl (by omega)
theorem edgesOk {w w0 : World} {a : Option Addr} {n c : Nat} {V : List AV} {L : List (Rat × Rat)} {k : Nat} [hs : Sl w (.slice a n c) V.length (rowA V) w0] [hp : PsA w V L k] (b : k ≤ 8) (hV : V.length ≤ 1000) (hR : RingOK L) :
    Calls Tryz.prog 33 #[.slice a n c] w (FsHEr w (edgesL L) (482 * k + 2194)) := by
  have hpos := hR.pos
  have hE := hR.edge
  go_enter Tryz.func33, Tryz.ntmps33
  go_wp2_with fail
  with_reducible refine Calls.cPsFEr (ringOfOk (by omega) (by omega) hR) ?_
  intro w1 _ a1 c1 V1 _ ip1
  have hV1 : V1.length ≤ 1000 := by rw [ip1.len, ← PsA.len (W := w) (V := V)]; exact hV
  have hV2 : 0 < V1.length := by rw [ip1.len]; exact hpos
  go_wp2_with fail
  with_reducible refine Calls.cFsGRet (frsC (V := V1) (by omega) hV1 hV2 hE) ?_
  intro w2 _ a2 c2 V2 _ ip2
  have hV3 : V2.length ≤ 1000 := by rw [ip2.len, edgesL, List.length_map, List.length_range, ← ip1.len]; exact hV1
  go_wp2_with fail
  with_reducible refine Calls.cFsHRet (writeFrsC (V := V2) (by omega) (by omega)) ?_
  intro w3 _ a3 c3 V3 _ ip3
  go_wp2_with fail
  go_ret2
  exact FsHEr.fin (V := V3) rfl (by omega)
end Go.Proofs.YtdlnoeegboapkaaGreatDoor
