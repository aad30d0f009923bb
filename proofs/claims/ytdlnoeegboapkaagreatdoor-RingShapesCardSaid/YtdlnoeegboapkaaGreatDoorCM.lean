/-
  Texts of this claim, joined: Rg4, Sr, Rg5, Rg6.
-/
import Derived.Test.YtdlnoeegboapkaaGreatDoorCK
import Derived.Test.YtdlnoeegboapkaaGreatDoorCF
import Derived.Test.YtdlnoeegboapkaaGreatDoorRows
import Derived.LaidMore
import Derived.Stop.LaidTwo
import Derived.Stop.Joined
import Derived.Test.YtdlnoeegboapkaaGreatDoorCJ
namespace Go.Proofs.YtdlnoeegboapkaaGreatDoor
open Go.RowKit
set_option linter.unusedVariables false
set_option maxHeartbeats 40000000
set_option maxRecDepth 100000
set_option synthInstance.maxHeartbeats 1000000
set_option synthInstance.maxSize 100000
section
attribute [local go_sem] Oper.semAt_some
theorem calls_marks {P : Program} {f : FuncId} {fn : Func} {c : Code} {args : Array Value} {w : World} {R : Ending → World → Prop} (hf : P.funcs[f]? = some fn) (hb : fn.body = some c)
    (h : c.wp P (bodyPostM Fence.wide 5 P fn R) { tmps := args ++ Array.replicate (fn.ntmps - args.size) undef, defers := [] } w) : Calls P f args w R :=
  (callsIn_wide (n := 5)).1 (callsIn_of_wp_marks hf hb trivial ((wpIn_wide (n := 5)).2 h) rfl)
theorem retM_mark {P : Program} {fn : Func} {R : Ending → World → Prop} {a : Act} {w : World} {D : Nat} (hd : a.defers = [{ target := .collected D, args := #[] }]) (hK : w.heap[D]? = some (.deferred (some [])))
    (h : bodyPost P fn R .ret { a with defers := [] } (w.putObj D (.deferred none))) : bodyPostM Fence.wide 5 P fn R .ret a w := by
  obtain ⟨_, v, h2, h3⟩ := h
  show LeavesInM _ _ _ _ _ _ a.defers .returning w
  rw [hd]
  exact ⟨by simp, .inl ⟨_, _, rfl, run_takeDeferred hK, v, h2, h3⟩⟩
theorem inR {l n : Nat} {P : Program} {f : FuncId} {args : Array Value} {W : World} {K : Ending → World → Prop} (h : Calls P f args W K) : CallsIn (Fence.wide.inRound l) n P f args W K := CallsIn.inRound l (callsIn_wide.2 h)
theorem keepsK {B : Nat} {W W' : World} (h : Kp W W') : KeepsFrom B W W' := (KeepsOthers.of_grownBy (row := none) (below_gb h.out) (fun j o e => by cases e)).from _
class Dp1 (W : outParam World) (W2 : World) (D : outParam Nat) : Prop where
  eq : W2 = W.putObj D (.deferred none)
  was : ∃ x, W.heap[D]? = some (.deferred x)
section
variable {W W2 w0 w : World} {D : Nat}
theorem Dp1.size (k : Dp1 W W2 D) : W2.heap.size = W.heap.size := by rw [k.eq]; simp [World.putObj]
theorem Dp1.block (k : Dp1 W W2 D) {b : Nat} (h : b ≠ D) : W2.heap[b]? = W.heap[b]? := by
  rw [k.eq]; simp only [World.putObj, Array.getElem?_setIfInBounds]; rw [if_neg (fun e => h e.symm)]
theorem Dp1.cells (k : Dp1 W W2 D) {b : Nat} {l : Array Value} {t : TypeId} {z : Nat × Nat} (h : W.heap[b]? = some (.cells l t z)) : W2.heap[b]? = some (.cells l t z) := by
  obtain ⟨x, hx⟩ := k.was; rw [k.block (fun e => by rw [e, hx] at h; cases h)]; exact h
theorem Dp1.cell (k : Dp1 W W2 D) {a : Addr} {v : Value} (h : W.cell? a = some v) : W2.cell? a = some v := by
  obtain ⟨x, hx⟩ := k.was
  have hb : W2.heap[a.block]? = W.heap[a.block]? := k.block (fun e => by
    unfold World.cell? at h
    rw [e, hx] at h
    simp at h)
  unfold World.cell? at h ⊢
  rw [hb]; exact h
theorem Rd.dp {v : Value} {l : List Nat} (h : Rd W v l) (k : Dp1 W W2 D) : Rd W2 v l := by
  obtain ⟨a, cap, rfl, h1, h2, h3, h4⟩ := h
  refine ⟨a, cap, rfl, h1, h2, h3, fun h0 => ?_⟩
  obtain ⟨b, off, rfl, hcell⟩ := h4 h0
  exact ⟨b, off, rfl, fun j hj => k.cell (hcell j hj)⟩
theorem Pres.dp (k : Dp1 W W2 D) : Pres W W2 := ⟨fun h => ⟨h.1.dp k, h.2⟩, fun h => by obtain ⟨l, h1, h2⟩ := h; exact ⟨l, h1.dp k, h2⟩, fun {b l} y => k.cells y⟩
instance (priority := low) CF.dp {v : Value} {q : Rat} {k : Nat} [b : Dp1 W W2 D] [h : CF W v q k] : CF W2 v q k := ⟨h.out.map (Pres.dp b)⟩
instance (priority := low) Bx.dp {b : Nat} {t : TypeId} {l : List Value} [k : Dp1 W W2 D] [h : Bx W b t l] : Bx W2 b t l := ⟨k.cells h.out⟩
instance (priority := low) Sl.dp {v : Value} {n : Nat} {xs : List Value} [k : Dp1 W W2 D] [h : Sl W v n xs w0] : Sl W2 v n xs w0 := by
  refine ⟨?_, h.lt, by rw [k.size]; exact h.ltW⟩
  rcases h.out with e | ⟨g, c, e, hn, hc⟩
  · exact .inl e
  · exact .inr ⟨g, c, e, hn, fun j u hu => k.cell (hc j u hu)⟩
instance (priority := low) Kp.dp [k : Dp1 W W2 D] [h : Kp w W] [n : Ge w D] : Kp w W2 := ⟨h.out.trans (by
  obtain ⟨x, hx⟩ := k.was; rw [k.eq]
  exact ⟨rfl, rfl, rfl, by simp [World.putObj], fun i hi => by
    simp only [World.putObj, Array.getElem?_setIfInBounds]
    rw [if_neg (by have := n.out; omega)]⟩)⟩
instance PsF.dp {V : List FV} {L : List (Rat × Rat)} {k : Nat} [b : Dp1 W W2 D] [h : PsF W V L k] : PsF W2 V L k := ⟨h.len, fun i hi => by have := h.x i hi; infer_instance, fun i hi => by have := h.y i hi; infer_instance⟩
end
instance : BoxT 131 := by constructor <;> decide
instance : BoxT 238 := by constructor <;> decide
theorem def_set {W : World} {q i D : Nat} {x : Value} {y : Option (List Deferred)} (h : W.heap[D]? = some (.deferred y)) (hn : q ≠ D) : (W.setCell ⟨q, i, none⟩ x).heap[D]? = some (.deferred y) := by
  simp only [World.setCell, Array.getElem?_modify]
  rw [if_neg hn]; exact h
theorem load_one {P : Program} {W : World} {b : Nat} {ty t : TypeId} {d : TypeDesc} {v : Value} {l : List Value} [h : Bx W b t (v :: l)] (hu : P.underlying ty = some d) (hd : (match d with | .struct _ | .array _ _ => true | _ => false) = false) : (loadVar ty ⟨b, 0, none⟩).run P W = .ok v W := by
  have hagg : (isAgg ty).run P W = .ok false W := by
    unfold isAgg; rw [Sem.run_bind, run_underlying hu W]
    cases d <;> simp_all
  have hc : W.cell? ⟨b, 0, none⟩ = some v := by rw [cell_bx]; rfl
  simp [loadVar, hagg, hc]
theorem ret_cc {P : Program} {fn : Func} {R : Ending → World → Prop} {a : Act} {W : World} {p q : Tmp} {ty ty2 : TypeId} {b1 b2 : Nat} {v1 v2 : Value} (hr : fn.results = #[.cell p ty, .cell q ty2])
    (hp : a.tmps.getD p undef = .pointer (some ⟨b1, 0, none⟩)) (hq : a.tmps.getD q undef = .pointer (some ⟨b2, 0, none⟩)) (h1 : (loadVar ty ⟨b1, 0, none⟩).run P W = .ok v1 W) (h2 : (loadVar ty2 ⟨b2, 0, none⟩).run P W = .ok v2 W)
    (hdf : a.defers = []) (hR : R (.returned (.tuple #[v1, v2])) W) : bodyPost P fn R .ret a W := by
  refine ⟨hdf, _, ?_, hR⟩
  have hp' : a.tmps[p]?.getD undef = .pointer (some ⟨b1, 0, none⟩) := by simpa using hp
  have hq' : a.tmps[q]?.getD undef = .pointer (some ⟨b2, 0, none⟩) := by simpa using hq
  simp [results, hr, hp', hq', asAddr, h1, h2]
theorem ret_se {P : Program} {fn : Func} {R : Ending → World → Prop} {a : Act} {W : World} {p q : Tmp} {ty ty2 t1 t2 : TypeId} {d d2 : TypeDesc} {b1 b2 : Nat} {v1 v2 : Value} [i1 : Bx W b1 t1 [v1]] [i2 : Bx W b2 t2 [v2]] (hr : fn.results = #[.cell p ty, .cell q ty2])
    (hu : P.underlying ty = some d) (hd : (match d with | .struct _ | .array _ _ => true | _ => false) = false) (hu2 : P.underlying ty2 = some d2) (hd2 : (match d2 with | .struct _ | .array _ _ => true | _ => false) = false)
    (hp : a.tmps.getD p undef = .pointer (some ⟨b1, 0, none⟩)) (hq : a.tmps.getD q undef = .pointer (some ⟨b2, 0, none⟩)) (hdf : a.defers = []) (hR : R (.returned (.tuple #[v1, v2])) W) : bodyPost P fn R .ret a W :=
  ret_cc hr hp hq (load_one hu hd) (load_one hu2 hd2) hdf hR
theorem ringOfOk {w w0 : World} {a : Option Addr} {n c : Nat} {V : List AV} {L : List (Rat × Rat)} {k : Nat} [hs : Sl w (.slice a n c) V.length (rowA V) w0] [hp : PsA w V L k] (b : k ≤ 19000) (hV : V.length ≤ 4096) (hR : RingOK L) :
    Calls Tryz.prog 77 #[.slice a n c] w (PsFEr w L (k + 2)) := by
  obtain rfl := hs.len; have hlen := Lib.hid hp.len
  have hpos : 0 < V.length := by rw [hlen.out]; exact hR.pos
  have HR := Lib.hid hR; clear hR; obtain ⟨g, rfl, hA⟩ := hs.form hpos; have hno : ¬ (4096 < (V.length : Int)) := (by omega)
  refine calls_marks Tryz.func77 rfl ?_
  simp only [Tryz.ntmps77, List.size_toArray, List.length_cons, List.length_nil, Nat.reduceAdd, Nat.reduceSub, Array.replicate_succ, Array.replicate_zero, List.push_toArray, List.append_toArray, List.nil_append, List.cons_append]; go_wp2_with fail
  go_loopw [21, 4] (fun i o wr => ∃ (q : Nat) (U : List FV), i = .int .i64 (q : Int) ∧ q ≤ V.length ∧ Rn wr o 152 6 U.length (rowF U) (w.heap.size + 1 + 1) wr ∧ Hid (U.length = q) ∧ PsF wr U (L.take q) (k + 2) ∧ Bx wr w.heap.size 131 [.slice none 0 0] ∧ Bx wr (w.heap.size + 1) 36 [.nilIface] ∧ Kp w wr) (fun i _ _ => V.length - (intOf i).toNat)
  case atStart => exact ⟨0, [], rfl, by omega, Rn.nil (by simp), Lib.hid rfl, PsF.nil, inferInstance, inferInstance, inferInstance⟩
  case round =>
    obtain ⟨q, U, rfl, hq, i1, hU, i2, i3, i4, i5⟩ := hrel; have kw := Kp1.mk i5.out
    by_cases hlt : q < V.length
    · have hlt' : (q : Int) < V.length := by omega
      have lq : LtN q V.length := ⟨hlt⟩
      have ew : IntKind.i64.wrap ((q : Int) + 1) = (q : Int) + 1 := wr_in (by omega) (by omega)
      go_wp2_with (first
        | (go_at_call 142; (with_reducible refine Calls.cE (gNormalA (by omega)) ?_); intros)
        | (go_at_call 123; (with_reducible refine Calls.cPF (ptOfC (by omega)) ?_); intro w1 _ nx dx px ny dy py i7 i8)
        | (at_builtin; go_loud (refine app_rn1 (v := u4) rfl (.tmp 37) (.tmp 40) 131 rfl Tryz.underlying131 info_f rfl (by decide) (by decide) (by decide) inferInstance rfl (rowF_nd _) rfl (by rfl) ?h1 ?h2 (by first | omega | (have := hU.out; omega)) ?_); (case h1 => exact FV.one ⟨_, _, _, _, _, _⟩); (case h2 => exact FV.nd ⟨_, _, _, _, _, _⟩); intro g2 c2 w2 i9 i10 i11))
      go_roundw
      case rel => exact ⟨q + 1, U ++ [⟨nx, dx, px, ny, dy, py⟩], by go_num, by omega, Rn.cast2 (inferInstance) (by simp) (by rw [rowF_snoc]; rfl), Lib.hid (by rw [List.length_append, hU.out]; rfl), by rw [take_pg (by have := hlen.out; omega)]; exact PsF.add (by first | omega | simp) (by first | omega | simp), inferInstance, inferInstance, inferInstance⟩
      case measure => simp [intOf]; omega
    · obtain rfl : q = V.length := by omega
      rw [List.take_of_length_le (by have := hlen.out; omega)] at i2
      have hUl : Hid (U.length = L.length) := Lib.hid (hU.out.trans hlen.out)
      have hU4 : U.length ≤ 4096 := by rw [hU.out]; exact hV
      have hU0 : 0 < U.length := by rw [hU.out]; exact hpos
      clear hU hs hq hlt hA; obtain ⟨a3, c3, rfl⟩ := i1.slice; obtain ⟨g2, rfl, hA2⟩ := (Sl.ofRn (h := i1)).form hU0; go_wp2_with fail
      go_loopw [45, 7] (fun i d wx => ∃ (q m : Nat), i = .int .i64 (q : Int) ∧ q ≤ U.length ∧ d = .int .i64 (m : Int) ∧ Hid (min 3 (dsc L q) = m) ∧ Kp wr wx) (fun i _ _ => U.length - (intOf i).toNat)
      case atStart => exact ⟨0, 0, rfl, by omega, rfl, Lib.hid rfl, inferInstance⟩
      case round =>
        obtain ⟨q, m, rfl, hq, rfl, hm, j1⟩ := hrel; have kx := Kp1.mk j1.out
        have hm3 : m ≤ 3 := by rw [← hm.out]; omega
        by_cases hlt : q < U.length
        · have hlt' : (q : Int) < U.length := by omega
          have lq : LtN q U.length := ⟨hlt⟩
          have ew : IntKind.i64.wrap ((q : Int) + 1) = (q : Int) + 1 := wr_in (by omega) (by omega)
          have em : IntKind.i64.wrap ((m : Int) + 1) = (m : Int) + 1 := wr_in (by omega) (by omega)
          by_cases h3 : m < 3
          · have h3' : (m : Int) < 3 := by omega
            by_cases hn : pg L q ∈ L.take q
            · go_wp2_with (first
                | (go_at_call 144; go_loud ((with_reducible refine Calls.cFirst (firstC (V := U) (by omega) (by omega) ⟨q, hlt, rfl⟩) ?_); intro w1 _ m1 hm1); have hne : ¬ ((m1 : Int) = (q : Int)) := fun e => (FirstAt.new (by rw [← hUl.out]; exact hlt) hm1).1 (by omega) hn; have hne2 : ((m1 : Int) == (q : Int)) = false := beq_false_of_ne hne; clear hm1))
              go_roundw
              case rel => exact ⟨q + 1, m, by go_num, by omega, rfl, Lib.hid (by have h2 := hm.out; simp only [dsc, if_pos hn]; omega), inferInstance⟩
              case measure => simp [intOf]; omega
            · go_wp2_with (first
                | (go_at_call 144; (with_reducible refine Calls.cFirst (firstC (V := U) (by omega) (by omega) ⟨q, hlt, rfl⟩) ?_); intro w1 _ m1 hm1; obtain rfl : m1 = q := (FirstAt.new (by rw [← hUl.out]; exact hlt) hm1).2 hn; clear hm1))
              go_roundw
              case rel => exact ⟨m1 + 1, m + 1, by go_num, by omega, by go_num, Lib.hid (by have h2 := hm.out; simp only [dsc, if_neg hn]; omega), inferInstance⟩
              case measure => simp [intOf]; omega
          · obtain rfl : m = 3 := by omega
            go_wp2_with fail
            go_roundw
            case rel => exact ⟨q + 1, 3, by go_num, by omega, rfl, Lib.hid (by have h2 := hm.out; have := dsc_mono L (show q ≤ q + 1 by omega); omega), inferInstance⟩
            case measure => simp [intOf]; omega
        · obtain rfl : q = U.length := by omega
          have h3 : m = 3 := by have := HR.out.three; rw [← hUl.out] at this; have := hm.out; omega
          subst h3
          go_wp2_with (first
            | (go_at_call 145; (with_reducible refine Calls.cEdges edgesC ?_); intro w1 _ br _))
          refine range_edges (n := 5) (by omega) rfl (by omega) (V := U) (Br := br) (g := g2) (c := c3) rfl (fun T x b => (((T.setIfInBounds 70 (.int .i64 (x.val : Int))).setIfInBounds 71 (.agg (edL U x.val).toArray)).setIfInBounds 10 (.int .i64 (x.val : Int))).setIfInBounds 11 (.pointer (some ⟨b, 0, none⟩)))
            (fun _ W => Below w1.heap.size w1 W) (fun _ _ _ => False) (ownFrom_below (Nat.le_refl _) (Nat.le_refl _)) (fun _ _ _ _ _ h _ _ => h.elim) (Below.refl _ _) ?assign (fun _ _ _ h k => blw_trans h k.out) (fun _ _ h => h.size) ?body ?done ?stop
          case assign =>
            intro l pre x W K hI hK; simp only [encE, edL, List.zip_toArray, List.zip_cons_cons, List.zip_nil_right, List.foldl_toArray, List.foldl_cons, List.foldl_nil, List.setIfInBounds_toArray, List.set_cons_zero, List.set_cons_succ]; simp only [edL, List.setIfInBounds_toArray, List.set_cons_zero, List.set_cons_succ] at hK
            gi_wp2
            refine hK _ _ rfl ?_ ?_
            · infer_instance
            · exact Bx.re rfl
          case body =>
            intro l pre x b W hI hb hx hlt9; have kw1 := Kp1.mk hI; obtain ⟨m, hm0⟩ : ∃ m, (x.val + 1) % U.length = m := ⟨_, rfl⟩; have lq : LtN x.val U.length := ⟨x.isLt⟩
            have lm : LtN m U.length := ⟨by rw [← hm0]; exact Nat.mod_lt _ (by omega)⟩
            have hv : Hid (decide (((pg L x.val).1, (pg L x.val).2) = ((pg L m).1, (pg L m).2)) = false) := Lib.hid (by
              have := HR.out.edge x.val (by rw [← hUl.out]; exact x.isLt)
              rw [← hUl.out, hm0] at this
              exact decide_eq_false (show ¬ _ from this))
            dsimp only [edL] at hx ⊢
            rw [hm0] at hx ⊢; simp only [List.setIfInBounds_toArray, List.set_cons_zero, List.set_cons_succ]
            gi_wp2_with (first
              | (refine ⟨trivial, ?_⟩; gi_at_call 108; (refine inR ?_); (with_reducible refine Calls.cE (ptEqualV (by omega) hv) ?_); intros))
            exact ⟨keepsK inferInstance, (inferInstance : Kp W _).out.mono hI.size, blw_trans hI (inferInstance : Kp W _).out⟩
          case done =>
            intro D W hD hI hK; have kw1 := Kp1.mk hI
            have gd : Ge w D := ⟨Nat.le_trans (inferInstance : Kp w w1).out.size hD⟩
            have g0 : w.heap.size + 1 < D := Nat.lt_of_lt_of_le (i4.lt) (Nat.le_trans (Nat.le_trans j1.out.size (inferInstance : Kp wr w1).out.size) hD)
            go_wp2
            refine retM_mark (D := D) rfl (def_set (def_set hK (by omega)) (by omega)) ?_
            have kd : Dp1 ((W.setCell ⟨w.heap.size, 0, none⟩ (.slice (some ⟨g2, 0, none⟩) U.length c3)).setCell ⟨w.heap.size + 1, 0, none⟩ .nilIface) _ D := ⟨rfl, _, def_set (def_set hK (by omega)) (by omega)⟩
            refine ret_se rfl Tryz.underlying131 rfl Tryz.underlying36 rfl rfl rfl rfl ?_
            exact PsFEr.fin (V := U) rfl (Nat.le_refl _)
          case stop => exact fun _ _ _ _ _ _ h _ => h.elim
end
section
open Go Go.RowKit
theorem Tryz.gI : Tryz.prog.globalNamed "bspregion/api.ErrInvalid" = some 4 := by kernel_rfl
theorem Tryz.gRi : Tryz.prog.globalNamed "bspregion/api.ErrRing" = some 3 := by kernel_rfl
theorem Tryz.gLi : Tryz.prog.globalNamed "bspregion/api.ErrLimit" = some 2 := by kernel_rfl
theorem Tryz.gIt : (Tryz.prog.globals[4]?).map (·.type) = some 36 := by kernel_rfl
theorem Tryz.gRit : (Tryz.prog.globals[3]?).map (·.type) = some 36 := by kernel_rfl
theorem Tryz.gLit : (Tryz.prog.globals[2]?).map (·.type) = some 36 := by kernel_rfl
theorem Tryz.rcellsEs : Tryz.prog.cellsOf 388 = 1 := by kernel_rfl
theorem Tryz.rcellsStr : Tryz.prog.cellsOf 9 = 1 := by kernel_rfl
theorem Tryz.rstar : "*" ++ "errors.errorString" = "*errors.errorString" := by decide
theorem Tryz.rrowEs (u : TypeId) (h : Tryz.prog.typeName? 3 u = some "*errors.errorString") : u = 365 :=
  typeName_ptr_named (nm := "errors.errorString") (by rw [Tryz.rstar]; kernel_rfl) (by kernel_rfl) (by decide) u (by rw [Tryz.rstar]; exact h)
theorem snt_of_var9 {W : World} {n : String} {g : Nat} {a : Addr} (hg : Tryz.prog.globalNamed n = some g) (hv : W.var? Tryz.prog n = some #[.iface 365 (.pointer (some a))]) (hr : ∃ c t, W.heap[a.block]? = some (.cells c t (0, 0))) : Snt W g a W :=
  Snt.mk1 (by simpa using World.var?_cell hg hv 0) hr
def laid9 : List (String × DataW Unit) := [("math/bits.deBruijn32tab", Rows.laid_math_bits_deBruijn32tab), ("math/bits.deBruijn64tab", Rows.laid_math_bits_deBruijn64tab), ("internal/strconv.uint64pow10", Rows.laid_internal_strconv_uint64pow10), ("bspregion/api.ErrInvalid", Rows.laid_bspregion_api_ErrInvalid), ("bspregion/api.ErrRing", Rows.laid_bspregion_api_ErrRing), ("bspregion/api.ErrLimit", Rows.laid_bspregion_api_ErrLimit)]
theorem sents9 {W : World} (hL : laidMetH Tryz.prog laid9 W) : ∃ aI aR aL, Snt W 4 aI W ∧ Snt W 3 aR W ∧ Snt W 2 aL W := by
  rw [MakeChecks.laidMetH_plain _ _ _ (by kernel_rfl)] at hL
  have hT := hL.tail.tail.tail
  obtain ⟨a0, a1, s0, s1, c0, c1, t0, t1, hv0, hv1, _, _, _, _, _, _, hne, hb0, hb1⟩ := laid_sentinels2 hT Tryz.gI Tryz.gIt Tryz.gRi Tryz.gRit Tryz.underlying36 Tryz.rrowEs Tryz.underlying365 Tryz.underlying388 rfl rfl Tryz.underlying9 Tryz.rcellsEs Tryz.rcellsStr; obtain ⟨b0, b1, s0', s1', c0', c1', t0', t1', hv0', hv1', _, _, _, _, _, _, _, _, hb1'⟩ := laid_sentinels2 hT.tail Tryz.gRi Tryz.gRit Tryz.gLi Tryz.gLit Tryz.underlying36 Tryz.rrowEs Tryz.underlying365 Tryz.underlying388 rfl rfl Tryz.underlying9 Tryz.rcellsEs Tryz.rcellsStr; exact ⟨a0, a1, b1, snt_of_var9 Tryz.gI hv0 ⟨_, _, hb0⟩, snt_of_var9 Tryz.gRi hv1 ⟨_, _, hb1⟩, snt_of_var9 Tryz.gLi hv1' ⟨_, _, hb1'⟩⟩
end
section
attribute [local go_sem] Oper.semAt_some
def RErr (w : World) (v : Value) (a : Addr) (e : Ending) (w' : World) : Prop :=
  ∃ b s, e = .returned (.tuple #[v, .iface 114 (.pointer (some ⟨b, 0, none⟩))]) ∧ Bx w' b 116 [.iface 365 (.pointer (some a)), .int .i64 0, .int .i64 0, .string s] ∧ Below w.heap.size w w'
theorem Calls.cRErr {P : Program} {f : FuncId} {args : Array Value} {w : World} {v : Value} {a : Addr} {K : Ending → World → Prop} (h : Calls P f args w (RErr w v a))
    (hK : ∀ w' [Kp1 w w'] b s [Bx w' b 116 [.iface 365 (.pointer (some a)), .int .i64 0, .int .i64 0, .string s]], K (.returned (.tuple #[v, .iface 114 (.pointer (some ⟨b, 0, none⟩))])) w') : Calls P f args w K := by
  refine h.mono ?_
  rintro e w' ⟨b, s, rfl, hx, hb⟩
  exact @hK w' ⟨hb⟩ b s hx
theorem RErr.fin {w w' : World} {v : Value} {a : Addr} {b : Nat} {s : ByteArray} [k : Kp w w'] [h : Bx w' b 116 [.iface 365 (.pointer (some a)), .int .i64 0, .int .i64 0, .string s]] : RErr w v a (.returned (.tuple #[v, .iface 114 (.pointer (some ⟨b, 0, none⟩))])) w' := ⟨b, s, rfl, h, k.out⟩
def OErr (w : World) (a : Addr) (e : Ending) (w' : World) : Prop :=
  ∃ b s, e = .returned (.iface 114 (.pointer (some ⟨b, 0, none⟩))) ∧ Bx w' b 116 [.iface 365 (.pointer (some a)), .int .i64 0, .int .i64 0, .string s] ∧ Below w.heap.size w w'
theorem Calls.cOErr {P : Program} {f : FuncId} {args : Array Value} {w : World} {a : Addr} {K : Ending → World → Prop} (h : Calls P f args w (OErr w a))
    (hK : ∀ w' [Kp1 w w'] b s [Bx w' b 116 [.iface 365 (.pointer (some a)), .int .i64 0, .int .i64 0, .string s]], K (.returned (.iface 114 (.pointer (some ⟨b, 0, none⟩)))) w') : Calls P f args w K := by
  refine h.mono ?_
  rintro e w' ⟨b, s, rfl, hx, hb⟩
  exact @hK w' ⟨hb⟩ b s hx
theorem OErr.fin {w w' : World} {a : Addr} {b : Nat} {s : ByteArray} [k : Kp w w'] [h : Bx w' b 116 [.iface 365 (.pointer (some a)), .int .i64 0, .int .i64 0, .string s]] : OErr w a (.returned (.iface 114 (.pointer (some ⟨b, 0, none⟩)))) w' := ⟨b, s, rfl, h, k.out⟩
theorem rHalfC {w : World} {n1 d1 : Int} {p1 : Option Addr} {x : Rat} {k1 : Nat} [h1 : CF w (.agg #[.int .i64 n1, .int .i64 d1, .pointer p1]) x k1] (b : k1 ≤ 250000) :
    Calls Tryz.prog 154 #[.agg #[.int .i64 n1, .int .i64 d1, .pointer p1]] w (CFRet w (x / 2) (k1 + 4)) := by
  have ih : ∀ W, CF W (.agg #[.int .i64 1, .int .i64 1, .pointer none]) (mkRat 1 2) 2 := fun W => CF.small (by decide +kernel) (by decide +kernel) (by omega) (by omega) (by omega) (by omega)
  have ix := ih w
  go_enter Tryz.func154, Tryz.ntmps154
  go_wp2_with (first
    | (go_at_call 213; (with_reducible refine Calls.cF (rMulC (by omega)) ?_); intros))
  refine ret_bx rfl Tryz.underlying147 rfl (by kernel_rfl) rfl rfl rfl ?_; exact CFRet.fin (by rw [show mkRat 1 2 = (2 : Rat)⁻¹ by decide +kernel, Rat.div_def]) (by omega)
theorem geoAreaC {w w0 : World} {a : Option Addr} {n c : Nat} {V : List FV} {L : List (Rat × Rat)} {k : Nat} [hs : Sl w (.slice a n c) V.length (rowF V) w0] [hp : PsF w V L k] (b : k ≤ 5000) (hV : V.length ≤ 10) :
    Calls Tryz.prog 91 #[.slice a n c] w (CFRet w (areaL L) (40 * k + 120)) := by
  obtain rfl := hs.len; have hlen := Lib.hid hp.len; go_enter Tryz.func91, Tryz.ntmps91; go_wp2_with fail
  go_loopw [8] (fun i wr => ∃ (q kq : Nat) (ns ds : Int) (ps : Option Addr), i = .int .i64 (q : Int) ∧ q ≤ V.length ∧ Bx wr w.heap.size 147 [.int .i64 0, .int .i64 0, .pointer none] ∧ Bx wr (w.heap.size + 1) 147 [.int .i64 ns, .int .i64 ds, .pointer ps] ∧ CF wr (.agg #[.int .i64 ns, .int .i64 ds, .pointer ps]) (sumC L q) kq ∧ Hid (kq ≤ 2 + q * (4 * k + 10)) ∧ Kp w wr) (fun i _ => V.length - (intOf i).toNat)
  case atStart => exact ⟨0, 2, 0, 0, none, rfl, by omega, inferInstance, inferInstance, CF.zero (Nat.le_refl _), Lib.hid (by omega), inferInstance⟩
  case round =>
    obtain ⟨q, kq, ns, ds, ps, rfl, hq, i1, i2, i3, hkq, i4⟩ := hrel; have kw := Kp1.mk i4.out
    by_cases hlt : q < V.length
    · obtain ⟨g, rfl, hA⟩ := hs.form (by omega); have hlt' : (q : Int) < V.length := (by omega); have lq : LtN q V.length := ⟨hlt⟩
      have ew : IntKind.i64.wrap ((q : Int) + 1) = (q : Int) + 1 := wr_in (by omega) (by omega)
      obtain ⟨m, hm0⟩ : ∃ m, (q + 1) % V.length = m := ⟨_, rfl⟩
      have hm : m < V.length := by rw [← hm0]; exact Nat.mod_lt _ (by omega)
      have lm : LtN m V.length := ⟨hm⟩; have hm' : (m : Int) < V.length := (by omega)
      have er : ((q : Int) + 1).tmod (V.length : Int) = (m : Int) := by
        rw [← hm0, show (q : Int) + 1 = ((q + 1 : Nat) : Int) by omega]; exact (Int.ofNat_tmod _ _).symm
      have HM := Lib.hid hm0; clear hm0; have hz : ¬ ((V.length : Int) = 0) := (by omega); have hz2 : ¬ (V.length = 0) := (by omega)
      have hkq2 : kq ≤ 2 + q * (4 * k + 10) := hkq.out
      have hkq3 : q * (4 * k + 10) ≤ 10 * (4 * k + 10) := Nat.mul_le_mul_right _ (by omega)
      have HK : kq ≤ 2 + 10 * (4 * k + 10) := (by omega); clear hkq2 hkq3; go_wp2_with fail; refine rgn [] [12] fun hH => ?_; refine tk 0 hH ?_; refine tk 1 hH ?_; refine tk 2 hH ?_; refine tk 3 hH ?_; refine tk 4 hH ?_; refine tk 5 hH ?_; refine tk 6 hH ?_; refine tk 7 hH ?_; refine tk 8 hH ?_; refine tk 9 hH ?_; refine st 10 fun K hK => ?_; go_simp; (with_reducible refine Calls.cF (ptCrossC (by omega)) ?_); intros; refine hd hK ?_; clear hH hK K; intro hH; refine st 11 fun K hK => ?_; go_simp; (with_reducible refine Calls.cF (rAddC (by omega)) ?_); intros; refine hd hK ?_; clear hH hK K; intro hH; refine st 12 fun K hK => ?_; go_simp; refine hdT hK ?_; clear hK K; refine dn ?_; clear hH; go_wp2
      go_roundw
      case rel => exact ⟨q + 1, kq + (k + k + k + k + 7) + 3, _, _, _, by go_num, by omega, inferInstance, inferInstance, CF.cast inferInstance (by rw [sumC_succ (by have := hlen.out; omega), ← hlen.out, HM.out]; rfl) (Nat.le_refl _), Lib.hid (by have h1 := hkq.out; have h2 := Nat.succ_mul q (4 * k + 10); rw [Nat.succ_eq_add_one] at h2; rw [h2]; generalize q * (4 * k + 10) = X at *; omega), inferInstance⟩
      case measure => simp [intOf]; omega
    · obtain rfl : q = V.length := by omega
      have hkq2 : kq ≤ 2 + V.length * (4 * k + 10) := hkq.out
      have hkq3 : V.length * (4 * k + 10) ≤ 10 * (4 * k + 10) := Nat.mul_le_mul_right _ hV
      go_wp2_with (first
        | (go_at_call 154; (with_reducible refine Calls.cF (rHalfC (by omega)) ?_); intros))
      refine ret_bx rfl Tryz.underlying147 rfl (by kernel_rfl) rfl rfl rfl ?_; exact CFRet.fin (by rw [areaL, ← hlen.out]) (by omega)
end
section
theorem ringOfThree {w w0 : World} {a : Option Addr} {n c : Nat} {V : List AV} {L : List (Rat × Rat)} {k : Nat} [hs : Sl w (.slice a n c) V.length (rowA V) w0] [hp : PsA w V L k] {w1 : World} {aR : Addr} [hR0 : Snt w 3 aR w1] (b : k ≤ 19000) (hV : V.length ≤ 4096) (hD : dsc L L.length < 3) :
    Calls Tryz.prog 77 #[.slice a n c] w (RErr w (.slice none 0 0) aR) := by
  obtain rfl := hs.len; have hlen := Lib.hid hp.len; have HD := Lib.hid hD; clear hD
  have hR := hR0.here
  clear hR0; have hno : ¬ (4096 < (V.length : Int)) := (by omega); go_enter Tryz.func77, Tryz.ntmps77; go_wp2_with fail
  go_loopw [21, 4] (fun i o wr => ∃ (q : Nat) (U : List FV), i = .int .i64 (q : Int) ∧ q ≤ V.length ∧ Rn wr o 152 6 U.length (rowF U) (w.heap.size + 1 + 1) wr ∧ Hid (U.length = q) ∧ PsF wr U (L.take q) (k + 2) ∧ Bx wr w.heap.size 131 [.slice none 0 0] ∧ Bx wr (w.heap.size + 1) 36 [.nilIface] ∧ Kp w wr) (fun i _ _ => V.length - (intOf i).toNat)
  case atStart => exact ⟨0, [], rfl, by omega, Rn.nil (by simp), Lib.hid rfl, PsF.nil, inferInstance, inferInstance, inferInstance⟩
  case round =>
    obtain ⟨q, U, rfl, hq, i1, hU, i2, i3, i4, i5⟩ := hrel; have kw := Kp1.mk i5.out
    by_cases hlt : q < V.length
    · obtain ⟨g, rfl, hA⟩ := hs.form (by omega); have hlt' : (q : Int) < V.length := (by omega); have lq : LtN q V.length := ⟨hlt⟩
      have ew : IntKind.i64.wrap ((q : Int) + 1) = (q : Int) + 1 := wr_in (by omega) (by omega)
      go_wp2_with (first
        | (go_at_call 142; (with_reducible refine Calls.cE (gNormalA (by omega)) ?_); intros)
        | (go_at_call 123; (with_reducible refine Calls.cPF (ptOfC (by omega)) ?_); intro w1 _ nx dx px ny dy py i7 i8)
        | (at_builtin; go_loud (refine app_rn1 (v := u4) rfl (.tmp 37) (.tmp 40) 131 rfl Tryz.underlying131 info_f rfl (by decide) (by decide) (by decide) inferInstance rfl (rowF_nd _) rfl (by rfl) ?h1 ?h2 (by first | omega | (have := hU.out; omega)) ?_); (case h1 => exact FV.one ⟨_, _, _, _, _, _⟩); (case h2 => exact FV.nd ⟨_, _, _, _, _, _⟩); intro g2 c2 w2 i9 i10 i11))
      go_roundw
      case rel => exact ⟨q + 1, U ++ [⟨nx, dx, px, ny, dy, py⟩], by go_num, by omega, Rn.cast2 (inferInstance) (by simp) (by rw [rowF_snoc]; rfl), Lib.hid (by rw [List.length_append, hU.out]; rfl), by rw [take_pg (by have := hlen.out; omega)]; exact PsF.add (by first | omega | simp) (by first | omega | simp), inferInstance, inferInstance, inferInstance⟩
      case measure => simp [intOf]; omega
    · obtain rfl : q = V.length := by omega
      rw [List.take_of_length_le (by have := hlen.out; omega)] at i2
      have hUl : Hid (U.length = L.length) := Lib.hid (hU.out.trans hlen.out)
      have hU4 : U.length ≤ 4096 := by rw [hU.out]; exact hV
      clear hU hs hq hlt; obtain ⟨a3, c3, rfl⟩ := i1.slice; go_wp2_with fail
      go_loopw [45, 7] (fun i d wx => ∃ (q m : Nat), i = .int .i64 (q : Int) ∧ q ≤ U.length ∧ d = .int .i64 (m : Int) ∧ Hid (min 3 (dsc L q) = m) ∧ Kp wr wx) (fun i _ _ => U.length - (intOf i).toNat)
      case atStart => exact ⟨0, 0, rfl, by omega, rfl, Lib.hid rfl, inferInstance⟩
      case round =>
        obtain ⟨q, m, rfl, hq, rfl, hm, j1⟩ := hrel; have kx := Kp1.mk j1.out
        have hm3 : m ≤ 3 := by rw [← hm.out]; omega
        by_cases hlt : q < U.length
        · have isl : Sl wr (.slice a3 U.length c3) U.length (rowF U) _ := inferInstance
          obtain ⟨g2, rfl, hA2⟩ := isl.form (by omega); have hlt' : (q : Int) < U.length := (by omega); have lq : LtN q U.length := ⟨hlt⟩
          have ew : IntKind.i64.wrap ((q : Int) + 1) = (q : Int) + 1 := wr_in (by omega) (by omega)
          have em : IntKind.i64.wrap ((m : Int) + 1) = (m : Int) + 1 := wr_in (by omega) (by omega)
          by_cases h3 : m < 3
          · have h3' : (m : Int) < 3 := by omega
            by_cases hn : pg L q ∈ L.take q
            · go_wp2_with (first
                | (go_at_call 144; go_loud ((with_reducible refine Calls.cFirst (firstC (V := U) (by omega) (by omega) ⟨q, hlt, rfl⟩) ?_); intro w1 _ m1 hm1); have hne : ¬ ((m1 : Int) = (q : Int)) := fun e => (FirstAt.new (by rw [← hUl.out]; exact hlt) hm1).1 (by omega) hn; have hne2 : ((m1 : Int) == (q : Int)) = false := beq_false_of_ne hne; clear hm1))
              go_roundw
              case rel => exact ⟨q + 1, m, by go_num, by omega, rfl, Lib.hid (by have h2 := hm.out; simp only [dsc, if_pos hn]; omega), inferInstance⟩
              case measure => simp [intOf]; omega
            · go_wp2_with (first
                | (go_at_call 144; (with_reducible refine Calls.cFirst (firstC (V := U) (by omega) (by omega) ⟨q, hlt, rfl⟩) ?_); intro w1 _ m1 hm1; obtain rfl : m1 = q := (FirstAt.new (by rw [← hUl.out]; exact hlt) hm1).2 hn; clear hm1))
              go_roundw
              case rel => exact ⟨m1 + 1, m + 1, by go_num, by omega, by go_num, Lib.hid (by have h2 := hm.out; simp only [dsc, if_neg hn]; omega), inferInstance⟩
              case measure => simp [intOf]; omega
          · obtain rfl : m = 3 := by omega
            go_wp2_with fail
            go_roundw
            case rel => exact ⟨q + 1, 3, by go_num, by omega, rfl, Lib.hid (by have h2 := hm.out; have := dsc_mono L (show q ≤ q + 1 by omega); omega), inferInstance⟩
            case measure => simp [intOf]; omega
        · obtain rfl : q = U.length := by omega
          have h3 : m < 3 := by have h2 := HD.out; rw [← hUl.out] at h2; have := hm.out; omega
          have h3' : (m : Int) < 3 := (by omega); go_wp2_with fail; refine rgn [w.heap.size, w.heap.size + 1] [] fun hH => ?_; refine tk 0 hH ?_; refine tk 1 hH ?_; refine wpAnyT_ready (rs := [2, 4]) (by kernel_rfl) (by simp) ?_; refine AllT.cons (by simp; rfl) (fun K hK => ?_) (AllT.cons (by simp; rfl) (fun K hK => ?_) AllT.nil); go_simp; refine hd hK ?_; clear hH hK K; intro hH; refine tk 3 hH ?_; refine st 4 fun K hK => ?_; go_simp; refine hd hK ?_; clear hH hK K; intro hH; refine st 5 fun K hK => ?_; go_simp; refine hd hK ?_; clear hH hK K; intro hH; refine dn ?_; clear hH; go_wp2
          refine ret_se rfl Tryz.underlying131 rfl Tryz.underlying36 rfl rfl rfl rfl ?_
          exact RErr.fin; go_simp; refine hd hK ?_; clear hH hK K; intro hH; refine st 2 fun K hK => ?_; go_simp; refine hd hK ?_; clear hH hK K; intro hH; refine tk 3 hH ?_; refine st 5 fun K hK => ?_; go_simp; refine hd hK ?_; clear hH hK K; intro hH; refine dn ?_; clear hH; go_wp2
          refine ret_se rfl Tryz.underlying131 rfl Tryz.underlying36 rfl rfl rfl rfl ?_
          exact RErr.fin
theorem checkThree {w w0 : World} {a : Option Addr} {n c : Nat} {V : List AV} {L : List (Rat × Rat)} {k : Nat} [hs : Sl w (.slice a n c) V.length (rowA V) w0] [hp : PsA w V L k] {w1 : World} {aR : Addr} [hR0 : Snt w 3 aR w1] (b : k ≤ 19000) (hV : V.length ≤ 4096) (hD : dsc L L.length < 3) :
    Calls Tryz.prog 23 #[.slice a n c] w (OErr w aR) := by
  go_enter Tryz.func23, Tryz.ntmps23
  go_wp2_with (first
    | (go_at_call 77; (with_reducible refine Calls.cRErr (ringOfThree b hV hD) ?_); intros))
  go_ret; exact OErr.fin
def AErRet (w : World) (x : Rat) (k : Nat) (e : Ending) (w' : World) : Prop := ∃ g a l c aa ll cc, e = .returned (.tuple #[.agg #[.bool g, .slice a l c, .slice aa ll cc], .nilIface]) ∧ CA w' (.agg #[.bool g, .slice a l c, .slice aa ll cc]) x k ∧ Below w.heap.size w w'
theorem Calls.cAEr {P : Program} {f : FuncId} {args : Array Value} {w : World} {x : Rat} {k : Nat} {K : Ending → World → Prop} (h : Calls P f args w (AErRet w x k))
    (hK : ∀ w' [Kp1 w w'] g a l c aa ll cc [CA w' (.agg #[.bool g, .slice a l c, .slice aa ll cc]) x k], K (.returned (.tuple #[.agg #[.bool g, .slice a l c, .slice aa ll cc], .nilIface])) w') : Calls P f args w K := by
  refine h.mono ?_
  rintro e w' ⟨g, a, l, c, aa, ll, cc, rfl, hx, hb⟩
  exact @hK w' ⟨hb⟩ g a l c aa ll cc hx
theorem AErRet.fin {w w' : World} {g : Bool} {a aa : Option Addr} {l c ll cc k k' : Nat} {x x' : Rat} [b : Kp w w'] [hx : CA w' (.agg #[.bool g, .slice a l c, .slice aa ll cc]) x' k'] (e : x = x') (m : k' ≤ k) : AErRet w x k (.returned (.tuple #[.agg #[.bool g, .slice a l c, .slice aa ll cc], .nilIface])) w' :=
  ⟨g, a, l, c, aa, ll, cc, rfl, hx.cast e.symm m, b.out⟩
theorem ret_b9 {P : Program} {fn : Func} {R : Ending → World → Prop} {a : Act} {W : World} {b : Nat} {p u : Tmp} {ty t : TypeId} {d : TypeDesc} {l l' : List Value} [hb : Bx W b t l] (hr : fn.results = #[.cell p ty, .tmp u])
    (hu : P.underlying ty = some d) (hd : (match d with | .struct _ | .array _ _ => true | _ => false) = true) (hi : (P.info? ty).map (·.size) = some l.length)
    (hp : a.tmps.getD p undef = .pointer (some ⟨b, 0, none⟩)) (hdf : a.defers = []) (hl : l = l') (hR : R (.returned (.tuple #[.agg l'.toArray, a.tmps.getD u undef])) W) : bodyPost P fn R .ret a W := by
  subst hl; exact ret_ct hr hp (loadVar_at W b ty l d hu hd hi (fun j hj => by rw [cell_bx, List.getElem?_eq_getElem hj])) hdf hR
theorem areaOk {w w0 : World} {a : Option Addr} {n c : Nat} {V : List AV} {L : List (Rat × Rat)} {k : Nat} [hs : Sl w (.slice a n c) V.length (rowA V) w0] [hp : PsA w V L k] (b : k ≤ 4000) (hV : V.length ≤ 10) (hR : RingOK L) :
    Calls Tryz.prog 34 #[.slice a n c] w (AErRet w (areaL L) (40 * k + 200)) := by
  go_enter Tryz.func34, Tryz.ntmps34
  go_wp2_with (first
    | (go_at_call 77; (with_reducible refine Calls.cPsFEr (ringOfOk (by omega) (by omega) hR) ?_); intro w1 _ a1 c1 V1 _ ip1; have hV1 : V1.length ≤ 10 := by rw [ip1.len, ← PsA.len (W := w) (V := V)]; exact hV)
    | (go_at_call 91; (with_reducible refine Calls.cF (geoAreaC (by omega) hV1) ?_); intros)
    | (go_at_call 92; (with_reducible refine Calls.cA (rApiC (by omega)) ?_); intros))
  refine ret_b9 rfl Tryz.underlying29 rfl (by kernel_rfl) rfl rfl rfl ?_
  exact AErRet.fin rfl (by omega)
theorem Sl.ofBx {W : World} {b n c : Nat} {t : TypeId} {xs : List Value} (h : Bx W b t xs) (hc : n ≤ c := by first | omega | decide) : Sl W (.slice (some ⟨b, 0, none⟩) n c) n xs W :=
  ⟨.inr ⟨b, c, rfl, hc, fun j u hu => by rw [cell_bx (h := h)]; exact hu⟩, fun g e => by cases e; exact h.lt, fun g e => by cases e; exact h.lt⟩
theorem toPs3 {w : World} {b k : Nat} {gx1 gy1 : Bool} {ax1 aax1 ay1 aay1 : Option Addr} {lx1 cx1 llx1 ccx1 ly1 cy1 lly1 ccy1 : Nat} {gx2 gy2 : Bool} {ax2 aax2 ay2 aay2 : Option Addr} {lx2 cx2 llx2 ccx2 ly2 cy2 lly2 ccy2 : Nat} {gx3 gy3 : Bool} {ax3 aax3 ay3 aay3 : Option Addr} {lx3 cx3 llx3 ccx3 ly3 cy3 lly3 ccy3 : Nat} {px1 py1 px2 py2 px3 py3 : Rat} {k1 k2 k3 : Nat} [x1 : CQ w (.agg #[.bool gx1, .slice ax1 lx1 cx1, .slice aax1 llx1 ccx1]) px1 k1] [y1 : CQ w (.agg #[.bool gy1, .slice ay1 ly1 cy1, .slice aay1 lly1 ccy1]) py1 k1] [x2 : CQ w (.agg #[.bool gx2, .slice ax2 lx2 cx2, .slice aax2 llx2 ccx2]) px2 k2] [y2 : CQ w (.agg #[.bool gy2, .slice ay2 ly2 cy2, .slice aay2 lly2 ccy2]) py2 k2] [x3 : CQ w (.agg #[.bool gx3, .slice ax3 lx3 cx3, .slice aax3 llx3 ccx3]) px3 k3] [y3 : CQ w (.agg #[.bool gy3, .slice ay3 ly3 cy3, .slice aay3 lly3 ccy3]) py3 k3] [h : Bx w b 47 [.bool gx1, .slice ax1 lx1 cx1, .slice aax1 llx1 ccx1, .bool gy1, .slice ay1 ly1 cy1, .slice aay1 lly1 ccy1, .bool gx2, .slice ax2 lx2 cx2, .slice aax2 llx2 ccx2, .bool gy2, .slice ay2 ly2 cy2, .slice aay2 lly2 ccy2, .bool gx3, .slice ax3 lx3 cx3, .slice aax3 llx3 ccx3, .bool gy3, .slice ay3 ly3 cy3, .slice aay3 lly3 ccy3]] (hk : k ≤ 400000) (b1 : k1 ≤ k) (b2 : k2 ≤ k) (b3 : k3 ≤ k) :
    Calls Tryz.prog 27 #[.slice (some ⟨b, 0, none⟩) 3 3] w (PsARet w [(px1, py1), (px2, py2), (px3, py3)] (k + 1)) := by
  have i1 : Sl w (.slice (some ⟨b, 0, none⟩) 3 3) (List.length (α := AV) [⟨gx1, ax1, lx1, cx1, aax1, llx1, ccx1, gy1, ay1, ly1, cy1, aay1, lly1, ccy1⟩, ⟨gx2, ax2, lx2, cx2, aax2, llx2, ccx2, gy2, ay2, ly2, cy2, aay2, lly2, ccy2⟩, ⟨gx3, ax3, lx3, cx3, aax3, llx3, ccx3, gy3, ay3, ly3, cy3, aay3, lly3, ccy3⟩]) (rowA [⟨gx1, ax1, lx1, cx1, aax1, llx1, ccx1, gy1, ay1, ly1, cy1, aay1, lly1, ccy1⟩, ⟨gx2, ax2, lx2, cx2, aax2, llx2, ccx2, gy2, ay2, ly2, cy2, aay2, lly2, ccy2⟩, ⟨gx3, ax3, lx3, cx3, aax3, llx3, ccx3, gy3, ay3, ly3, cy3, aay3, lly3, ccy3⟩]) w := Sl.ofBx h
  have i2 : PsQ w [⟨gx1, ax1, lx1, cx1, aax1, llx1, ccx1, gy1, ay1, ly1, cy1, aay1, lly1, ccy1⟩, ⟨gx2, ax2, lx2, cx2, aax2, llx2, ccx2, gy2, ay2, ly2, cy2, aay2, lly2, ccy2⟩, ⟨gx3, ax3, lx3, cx3, aax3, llx3, ccx3, gy3, ay3, ly3, cy3, aay3, lly3, ccy3⟩] [(px1, py1), (px2, py2), (px3, py3)] k := (PsQ.add (h := (PsQ.add (h := (PsQ.add (h := PsQ.nil) (k := k) (b1) (b1))) (k := k) (b2) (b2))) (k := k) (b3) (b3))
  exact toPsC hk (by simp)
theorem toPs4 {w : World} {b k : Nat} {gx1 gy1 : Bool} {ax1 aax1 ay1 aay1 : Option Addr} {lx1 cx1 llx1 ccx1 ly1 cy1 lly1 ccy1 : Nat} {gx2 gy2 : Bool} {ax2 aax2 ay2 aay2 : Option Addr} {lx2 cx2 llx2 ccx2 ly2 cy2 lly2 ccy2 : Nat} {gx3 gy3 : Bool} {ax3 aax3 ay3 aay3 : Option Addr} {lx3 cx3 llx3 ccx3 ly3 cy3 lly3 ccy3 : Nat} {gx4 gy4 : Bool} {ax4 aax4 ay4 aay4 : Option Addr} {lx4 cx4 llx4 ccx4 ly4 cy4 lly4 ccy4 : Nat} {px1 py1 px2 py2 px3 py3 px4 py4 : Rat} {k1 k2 k3 k4 : Nat} [x1 : CQ w (.agg #[.bool gx1, .slice ax1 lx1 cx1, .slice aax1 llx1 ccx1]) px1 k1] [y1 : CQ w (.agg #[.bool gy1, .slice ay1 ly1 cy1, .slice aay1 lly1 ccy1]) py1 k1] [x2 : CQ w (.agg #[.bool gx2, .slice ax2 lx2 cx2, .slice aax2 llx2 ccx2]) px2 k2] [y2 : CQ w (.agg #[.bool gy2, .slice ay2 ly2 cy2, .slice aay2 lly2 ccy2]) py2 k2] [x3 : CQ w (.agg #[.bool gx3, .slice ax3 lx3 cx3, .slice aax3 llx3 ccx3]) px3 k3] [y3 : CQ w (.agg #[.bool gy3, .slice ay3 ly3 cy3, .slice aay3 lly3 ccy3]) py3 k3] [x4 : CQ w (.agg #[.bool gx4, .slice ax4 lx4 cx4, .slice aax4 llx4 ccx4]) px4 k4] [y4 : CQ w (.agg #[.bool gy4, .slice ay4 ly4 cy4, .slice aay4 lly4 ccy4]) py4 k4] [h : Bx w b 47 [.bool gx1, .slice ax1 lx1 cx1, .slice aax1 llx1 ccx1, .bool gy1, .slice ay1 ly1 cy1, .slice aay1 lly1 ccy1, .bool gx2, .slice ax2 lx2 cx2, .slice aax2 llx2 ccx2, .bool gy2, .slice ay2 ly2 cy2, .slice aay2 lly2 ccy2, .bool gx3, .slice ax3 lx3 cx3, .slice aax3 llx3 ccx3, .bool gy3, .slice ay3 ly3 cy3, .slice aay3 lly3 ccy3, .bool gx4, .slice ax4 lx4 cx4, .slice aax4 llx4 ccx4, .bool gy4, .slice ay4 ly4 cy4, .slice aay4 lly4 ccy4]] (hk : k ≤ 400000) (b1 : k1 ≤ k) (b2 : k2 ≤ k) (b3 : k3 ≤ k) (b4 : k4 ≤ k) :
    Calls Tryz.prog 27 #[.slice (some ⟨b, 0, none⟩) 4 4] w (PsARet w [(px1, py1), (px2, py2), (px3, py3), (px4, py4)] (k + 1)) := by
  have i1 : Sl w (.slice (some ⟨b, 0, none⟩) 4 4) (List.length (α := AV) [⟨gx1, ax1, lx1, cx1, aax1, llx1, ccx1, gy1, ay1, ly1, cy1, aay1, lly1, ccy1⟩, ⟨gx2, ax2, lx2, cx2, aax2, llx2, ccx2, gy2, ay2, ly2, cy2, aay2, lly2, ccy2⟩, ⟨gx3, ax3, lx3, cx3, aax3, llx3, ccx3, gy3, ay3, ly3, cy3, aay3, lly3, ccy3⟩, ⟨gx4, ax4, lx4, cx4, aax4, llx4, ccx4, gy4, ay4, ly4, cy4, aay4, lly4, ccy4⟩]) (rowA [⟨gx1, ax1, lx1, cx1, aax1, llx1, ccx1, gy1, ay1, ly1, cy1, aay1, lly1, ccy1⟩, ⟨gx2, ax2, lx2, cx2, aax2, llx2, ccx2, gy2, ay2, ly2, cy2, aay2, lly2, ccy2⟩, ⟨gx3, ax3, lx3, cx3, aax3, llx3, ccx3, gy3, ay3, ly3, cy3, aay3, lly3, ccy3⟩, ⟨gx4, ax4, lx4, cx4, aax4, llx4, ccx4, gy4, ay4, ly4, cy4, aay4, lly4, ccy4⟩]) w := Sl.ofBx h
  have i2 : PsQ w [⟨gx1, ax1, lx1, cx1, aax1, llx1, ccx1, gy1, ay1, ly1, cy1, aay1, lly1, ccy1⟩, ⟨gx2, ax2, lx2, cx2, aax2, llx2, ccx2, gy2, ay2, ly2, cy2, aay2, lly2, ccy2⟩, ⟨gx3, ax3, lx3, cx3, aax3, llx3, ccx3, gy3, ay3, ly3, cy3, aay3, lly3, ccy3⟩, ⟨gx4, ax4, lx4, cx4, aax4, llx4, ccx4, gy4, ay4, ly4, cy4, aay4, lly4, ccy4⟩] [(px1, py1), (px2, py2), (px3, py3), (px4, py4)] k := (PsQ.add (h := (PsQ.add (h := (PsQ.add (h := (PsQ.add (h := PsQ.nil) (k := k) (b1) (b1))) (k := k) (b2) (b2))) (k := k) (b3) (b3))) (k := k) (b4) (b4))
  exact toPsC hk (by simp)
theorem known09C {w w1 : World} {aR : Addr} [hR0 : Snt w 3 aR w1] : Calls Tryz.prog 24 #[] w fun e w' => e = .returned (.bool true) ∧ Below w.heap.size w w' := by
  have hR := hR0.here
  clear hR0
  have r1 : RingOK [(((0 : Int) : Rat), ((0 : Int) : Rat)), (((2 : Int) : Rat), ((0 : Int) : Rat)), (((0 : Int) : Rat), ((2 : Int) : Rat))] := ring3 (by decide +kernel) (by decide +kernel) (by decide +kernel)
  have r2 : dsc [(((0 : Int) : Rat), ((0 : Int) : Rat)), (((1 : Int) : Rat), ((0 : Int) : Rat)), (((0 : Int) : Rat), ((0 : Int) : Rat)), (((1 : Int) : Rat), ((0 : Int) : Rat))] 4 < 3 := by decide +kernel
  have R2 := Lib.hid r2; have R1 := Lib.hid r1; clear r1 r2
  have r3 : Hid (isgn (areaL [(((0 : Int) : Rat), ((0 : Int) : Rat)), (((2 : Int) : Rat), ((0 : Int) : Rat)), (((0 : Int) : Rat), ((2 : Int) : Rat))] - ((2 : Int) : Rat)).num = 0) := by show _ = _; decide +kernel
  go_enter Tryz.func24, Tryz.ntmps24
  go_wp2_with (go_at_call 22; (with_reducible refine Calls.cPQ (refXyC (by omega)) ?_); intros)
  with_reducible refine Calls.cPsARet (toPs3 (k := 4) (by omega) (by omega) (by omega) (by omega)) ?_
  intro v1 _ sa1 sc1 V1 _ ip1; have hV1 := Lib.hid (show V1.length = 3 from ip1.len)
  go_wp2_with (first
    | (go_at_call 22; (with_reducible refine Calls.cPQ (refXyC (by omega)) ?_); intros)
    | (go_at_call 34; (with_reducible refine Calls.cAEr (areaOk (V := V1) (by omega) (by have := hV1.out; omega) R1.out) ?_); intro v2 _ g2 a2 l2 c2 aa2 ll2 cc2 _; clear hV1 ip1))
  with_reducible refine Calls.cPsARet (toPs4 (k := 4) (by omega) (by omega) (by omega) (by omega) (by omega)) ?_
  intro v3 _ sa3 sc3 V3 _ ip3; have hV3 := Lib.hid (show V3.length = 4 from ip3.len)
  go_wp2_with (first
    | (go_at_call 23; (with_reducible refine Calls.cOErr (checkThree (V := V3) (by omega) (by have := hV3.out; omega) R2.out) ?_); intros)
    | (go_at_call 56; (with_reducible refine Calls.cQ (refQC (by omega)) ?_); intros)
    | (go_at_call 76; (with_reducible refine Calls.cQ (numOfC (by omega)) ?_); intros)
    | (go_at_call 78; (with_reducible refine Calls.cE (numCV (by omega) r3) ?_); intros)
    | (go_at_call 18; (with_reducible refine Calls.cS isSameC ?_)))
  go_ret; exact E.fin rfl
end
end Go.Proofs.YtdlnoeegboapkaaGreatDoor
