/-
  Texts of this claim, joined: Rc0, Rc1.
-/
import Derived.Test.YtdlnoeegboapkaaGreatDoorCT
import Derived.Test.YtdlnoeegboapkaaGreatDoorCP
/- Rows of points that begin anywhere in a block: slices that came in as an argument. -/
namespace Go.Proofs.YtdlnoeegboapkaaGreatDoor
open Go.RowKit
set_option linter.unusedVariables false
set_option maxRecDepth 100000
set_option maxHeartbeats 4000000

class SlO (W : World) (v : Value) (n : outParam Nat) (xs : outParam (List Value)) (w0 : outParam World) : Prop where
  out : (n = 0 ∧ ∃ a c, v = .slice a 0 c) ∨ ∃ g o c, v = .slice (some ⟨g, o, none⟩) n c ∧ n ≤ c ∧ ∀ j u, xs[j]? = some u → W.cell? ⟨g, o + j, none⟩ = some u
  lt : 0 < n → ∀ g, v.ownBlock = some g → g < w0.heap.size
  ltW : 0 < n → ∀ g, v.ownBlock = some g → g < W.heap.size
class AtO (W : World) (g o : Nat) (xs : outParam (List Value)) (w0 : outParam World) : Prop where
  out : ∀ j u, xs[j]? = some u → W.cell? ⟨g, o + j, none⟩ = some u
  lt : g < w0.heap.size
  ltW : g < W.heap.size
section
variable {W W2 w0 w1 : World} {v : Value} {n base g o : Nat} {xs : List Value}
theorem SlO.keep (h : SlO W v n xs w0) (hs : W.heap.size ≤ W2.heap.size) (hb : 0 < n → ∀ g, v.ownBlock = some g → W2.heap[g]? = W.heap[g]?) : SlO W2 v n xs w0 := by
  refine ⟨?_, h.lt, fun h0 g e => Nat.lt_of_lt_of_le (h.ltW h0 g e) hs⟩
  rcases Nat.eq_zero_or_pos n with h0 | h0
  · rcases h.out with k | ⟨g, o, c, rfl, hc, k⟩
    · exact .inl k
    · subst h0; exact .inl ⟨rfl, _, _, rfl⟩
  · rcases h.out with k | ⟨g, o, c, rfl, hc, k⟩
    · exact .inl k
    · exact .inr ⟨g, o, c, rfl, hc, fun j u hu => by rw [cell_same (hb h0 g rfl)]; exact k j u hu⟩
theorem AtO.keep (h : AtO W g o xs w0) (hs : W.heap.size ≤ W2.heap.size) (hb : W2.heap[g]? = W.heap[g]?) : AtO W2 g o xs w0 :=
  ⟨fun j u hu => by rw [cell_same hb]; exact h.out j u hu, h.lt, Nat.lt_of_lt_of_le h.ltW hs⟩
instance SlO.al {ob : Obj} [h : SlO W v n xs w0] : SlO (W.alloc ob) v n xs w0 := h.keep (by rw [World.size_alloc]; omega) (fun h0 g e => heap_al_lt (h.ltW h0 g e))
instance SlO.dr [h : SlO W v n xs w0] : SlO W.drew v n xs w0 := h.keep (Nat.le_refl _) (fun _ _ _ => rfl)
instance SlO.drN {j : Nat} [h : SlO W v n xs w0] : SlO (W.drewN j) v n xs w0 := h.keep (Nat.le_refl _) (fun _ _ _ => rfl)
instance (priority := low) SlO.kp [k : Kp1 W W2] [h : SlO W v n xs w0] : SlO W2 v n xs w0 := h.keep k.out.size (fun h0 g e => k.out.block _ (h.ltW h0 g e))
instance SlO.st {q i : Nat} {x : Value} [h : SlO W v n xs w0] [l : Ge w0 q] : SlO (W.setCell ⟨q, i, none⟩ x) v n xs w0 := h.keep (by rw [World.size_setCell]; omega)
  (fun h0 g e => by simp only [World.setCell, Array.getElem?_modify]; rw [if_neg (by have := l.out; have := h.lt h0 g e; omega)])
instance (priority := low) SlO.ex {L : List Nat} [k : Ex1 W L W2] [h : SlO W v n xs w0] [l : GeL w0 L] : SlO W2 v n xs w0 := h.keep k.out.size
  (fun h0 g e => k.out.block _ (h.ltW h0 g e) (fun hm => by have := l.out _ hm; have := h.lt h0 g e; omega))
instance AtO.al {ob : Obj} [h : AtO W g o xs w0] : AtO (W.alloc ob) g o xs w0 := h.keep (by rw [World.size_alloc]; omega) (heap_al_lt h.ltW)
instance AtO.dr [h : AtO W g o xs w0] : AtO W.drew g o xs w0 := h.keep (Nat.le_refl _) rfl
instance AtO.drN {j : Nat} [h : AtO W g o xs w0] : AtO (W.drewN j) g o xs w0 := h.keep (Nat.le_refl _) rfl
instance (priority := low) AtO.kp [k : Kp1 W W2] [h : AtO W g o xs w0] : AtO W2 g o xs w0 := h.keep k.out.size (k.out.block _ h.ltW)
instance AtO.st {q i : Nat} {x : Value} [h : AtO W g o xs w0] [l : Ge w0 q] : AtO (W.setCell ⟨q, i, none⟩ x) g o xs w0 := h.keep (by rw [World.size_setCell]; omega)
  (by simp only [World.setCell, Array.getElem?_modify]; rw [if_neg (by have := l.out; have := h.lt; omega)])
instance (priority := low) AtO.ex {L : List Nat} [k : Ex1 W L W2] [h : AtO W g o xs w0] [l : GeL w0 L] : AtO W2 g o xs w0 := h.keep k.out.size
  (k.out.block _ h.ltW (fun hm => by have := l.out _ hm; have := h.lt; omega))
instance (priority := low) AtO.ap [k : Ap1 W W2 base w1] [h : AtO W g o xs w0] [l : Ge w0 base] : AtO W2 g o xs w0 := h.keep k.size (k.block h.ltW (.inl (Nat.lt_of_lt_of_le h.lt l.out)))
theorem SlO.here (h : SlO W v n xs w0) : SlO W v n xs W := ⟨h.out, h.ltW, h.ltW⟩
theorem SlO.len {a : Option Addr} {n' c : Nat} (h : SlO W (.slice a n' c) n xs w0) : n' = n := by
  rcases h.out with ⟨e0, a', c', e⟩ | ⟨g, o, c', e, _, _⟩
  · injection e with _ e2 _; omega
  · injection e with _ e2 _
theorem SlO.form {a : Option Addr} {n' c : Nat} (h : SlO W (.slice a n' c) n xs w0) (h0 : 0 < n) : ∃ g o, a = some ⟨g, o, none⟩ ∧ AtO W g o xs w0 := by
  rcases h.out with ⟨e0, _⟩ | ⟨g, o, c', e, _, hc⟩
  · omega
  · injection e with e1 e2 e3
    subst e1
    exact ⟨g, o, rfl, hc, h.lt h0 g rfl, h.ltW h0 g rfl⟩
end
theorem at_o {W w0 : World} {g o k j : Nat} {V : List AV} (h : AtO W g o (rowA V) w0) (hk : k < V.length) (hj : j < 6) : W.cell? ⟨g, o + k * 6 + j, none⟩ = some ((av V k).l[j]'hj) := by
  rw [av_get hk, Nat.add_assoc]
  exact h.out _ _ (by rw [rowA, flat_get AV.len V k j hk hj]; exact List.getElem?_eq_getElem (l := V[k].l) hj)
@[go_sem] theorem cell_o0 {W w0 : World} {g o k : Nat} {V : List AV} [h : AtO W g o (rowA V) w0] (hk : k < V.length) : W.cell? ⟨g, o + k * 6, none⟩ = some (.bool (av V k).gx) := at_o h hk (j := 0) (by decide)
@[go_sem] theorem cell_o1 {W w0 : World} {g o k : Nat} {V : List AV} [h : AtO W g o (rowA V) w0] (hk : k < V.length) : W.cell? ⟨g, o + k * 6 + 1, none⟩ = some (.slice (av V k).ax (av V k).lx (av V k).cx) := at_o h hk (j := 1) (by decide)
@[go_sem] theorem cell_o2 {W w0 : World} {g o k : Nat} {V : List AV} [h : AtO W g o (rowA V) w0] (hk : k < V.length) : W.cell? ⟨g, o + k * 6 + 2, none⟩ = some (.slice (av V k).aax (av V k).llx (av V k).ccx) := at_o h hk (j := 2) (by decide)
@[go_sem] theorem cell_o3 {W w0 : World} {g o k : Nat} {V : List AV} [h : AtO W g o (rowA V) w0] (hk : k < V.length) : W.cell? ⟨g, o + k * 6 + 3, none⟩ = some (.bool (av V k).gy) := at_o h hk (j := 3) (by decide)
@[go_sem] theorem cell_o4 {W w0 : World} {g o k : Nat} {V : List AV} [h : AtO W g o (rowA V) w0] (hk : k < V.length) : W.cell? ⟨g, o + k * 6 + 4, none⟩ = some (.slice (av V k).ay (av V k).ly (av V k).cy) := at_o h hk (j := 4) (by decide)
@[go_sem] theorem cell_o5 {W w0 : World} {g o k : Nat} {V : List AV} [h : AtO W g o (rowA V) w0] (hk : k < V.length) : W.cell? ⟨g, o + k * 6 + 5, none⟩ = some (.slice (av V k).aay (av V k).lly (av V k).ccy) := at_o h hk (j := 5) (by decide)
@[go_sem] theorem load_AO {W w0 : World} {g o k : Nat} {V : List AV} [h : AtO W g o (rowA V) w0] (hk : k < V.length) : (loadVar 31 ⟨g, o + k * 6, none⟩).run Tryz.prog W = .ok (.agg #[.bool (av V k).gx, .slice (av V k).ax (av V k).lx (av V k).cx, .slice (av V k).aax (av V k).llx (av V k).ccx, .bool (av V k).gy, .slice (av V k).ay (av V k).ly (av V k).cy, .slice (av V k).aay (av V k).lly (av V k).ccy]) W :=
  load_off W g (o + k * 6) 31 (av V k).l _ Tryz.underlying31 rfl (by kernel_rfl) (fun j hj => at_o h hk hj)
end Go.Proofs.YtdlnoeegboapkaaGreatDoor

/- geo.RingOf at a ring of normal points that lies anywhere: a valid ring; too few points. printed by a small program (mkrc1.py). -/
namespace Go.Proofs.YtdlnoeegboapkaaGreatDoor
open Go.RowKit
set_option maxRecDepth 100000
set_option maxHeartbeats 40000000
set_option synthInstance.maxSize 100000
set_option synthInstance.maxHeartbeats 1000000
set_option linter.unusedVariables false

attribute [local go_sem] Oper.semAt_some
theorem ringOfOkO {w w0 : World} {a : Option Addr} {n c : Nat} {V : List AV} {L : List (Rat × Rat)} {k : Nat} [hs : SlO w (.slice a n c) V.length (rowA V) w0] [hp : PsA w V L k] (b : k ≤ 19000) (hV : V.length ≤ 4096) (hR : RingOK L) :
    Calls Tryz.prog 77 #[.slice a n c] w (PsFEr w L (k + 2)) := by
  obtain rfl := hs.len
  have hlen := Lib.hid hp.len
  have hpos : 0 < V.length := by rw [hlen.out]; exact hR.pos
  have HR := Lib.hid hR
  clear hR
  obtain ⟨g, off, rfl, hA⟩ := hs.form hpos
  have hno : ¬ (4096 < (V.length : Int)) := by omega
  refine calls_marks Tryz.func77 rfl ?_
  simp only [Tryz.ntmps77, List.size_toArray, List.length_cons, List.length_nil, Nat.reduceAdd, Nat.reduceSub, Array.replicate_succ, Array.replicate_zero, List.push_toArray, List.append_toArray, List.nil_append, List.cons_append]
  go_wp2_with fail
  go_loopw [21, 4] (fun i o wr => ∃ (q : Nat) (U : List FV), i = .int .i64 (q : Int) ∧ q ≤ V.length ∧ Rn wr o 152 6 U.length (rowF U) (w.heap.size + 1 + 1) wr ∧ Hid (U.length = q) ∧ PsF wr U (L.take q) (k + 2) ∧ Bx wr w.heap.size 131 [.slice none 0 0] ∧ Bx wr (w.heap.size + 1) 36 [.nilIface] ∧ Kp w wr) (fun i _ _ => V.length - (intOf i).toNat)
  case atStart => exact ⟨0, [], rfl, by omega, Rn.nil (by simp), Lib.hid rfl, PsF.nil, inferInstance, inferInstance, inferInstance⟩
  case round =>
    obtain ⟨q, U, rfl, hq, i1, hU, i2, i3, i4, i5⟩ := hrel
    have kw := Kp1.mk i5.out
    by_cases hlt : q < V.length
    · have hlt' : (q : Int) < V.length := by omega
      have lq : LtN q V.length := ⟨hlt⟩
      have ew : IntKind.i64.wrap ((q : Int) + 1) = (q : Int) + 1 := wr_in (by omega) (by omega)
      go_wp2_with (first
        | (go_at_call 142; (with_reducible refine Calls.cE (gNormalA (by omega)) ?_); intros)
        | (go_at_call 123; (with_reducible refine Calls.cPF (ptOfC (by omega)) ?_); intro w1 _ nx dx px ny dy py i7 i8)
        | (at_builtin; go_loud (refine app_rn1 (v := u4) rfl (.tmp 37) (.tmp 40) 131 rfl Tryz.underlying131 info_f rfl (by decide) (by decide) (by decide) inferInstance rfl (rowF_nd _) rfl (by rfl) ?h1 ?h2 (by first | omega | (have := hU.out; omega)) ?_); (case h1 => exact FV.one ⟨_, _, _, _, _, _⟩); (case h2 => exact FV.nd ⟨_, _, _, _, _, _⟩); intro g2 c2 w2 i9 i10 i11))
      go_roundw
      case rel => exact ⟨q + 1, U ++ [⟨nx, dx, px, ny, dy, py⟩], by go_num, by omega, Rn.cast2 (inferInstance) (by simp) (by rw [rowF_snoc]; rfl), Lib.hid (by rw [List.length_append, hU.out]; rfl), by rw [take_pg (by have := hlen.out; omega)]; exact PsF.add (by first | omega | simp) (by first | omega | simp), inferInstance, inferInstance, inferInstance⟩
      case measure => simp [intOf]; omega
    · obtain rfl : q = V.length := by omega
      rw [List.take_of_length_le (by have := hlen.out; omega)] at i2
      have hUl : Hid (U.length = L.length) := Lib.hid (hU.out.trans hlen.out)
      have hU4 : U.length ≤ 4096 := by rw [hU.out]; exact hV
      have hU0 : 0 < U.length := by rw [hU.out]; exact hpos
      clear hU hs hq hlt hA
      obtain ⟨a3, c3, rfl⟩ := i1.slice
      obtain ⟨g2, rfl, hA2⟩ := (Sl.ofRn (h := i1)).form hU0
      go_wp2_with fail
      go_loopw [45, 7] (fun i d wx => ∃ (q m : Nat), i = .int .i64 (q : Int) ∧ q ≤ U.length ∧ d = .int .i64 (m : Int) ∧ Hid (min 3 (dsc L q) = m) ∧ Kp wr wx) (fun i _ _ => U.length - (intOf i).toNat)
      case atStart => exact ⟨0, 0, rfl, by omega, rfl, Lib.hid rfl, inferInstance⟩
      case round =>
        obtain ⟨q, m, rfl, hq, rfl, hm, j1⟩ := hrel
        have kx := Kp1.mk j1.out
        have hm3 : m ≤ 3 := by rw [← hm.out]; omega
        by_cases hlt : q < U.length
        · have hlt' : (q : Int) < U.length := by omega
          have lq : LtN q U.length := ⟨hlt⟩
          have ew : IntKind.i64.wrap ((q : Int) + 1) = (q : Int) + 1 := wr_in (by omega) (by omega)
          have em : IntKind.i64.wrap ((m : Int) + 1) = (m : Int) + 1 := wr_in (by omega) (by omega)
          by_cases h3 : m < 3
          · have h3' : (m : Int) < 3 := by omega
            by_cases hn : pg L q ∈ L.take q
            · go_wp2_with (first
                | (go_at_call 144; go_loud ((with_reducible refine Calls.cFirst (firstC (V := U) (by omega) (by omega) ⟨q, hlt, rfl⟩) ?_); intro w1 _ m1 hm1); have hne : ¬ ((m1 : Int) = (q : Int)) := fun e => (FirstAt.new (by rw [← hUl.out]; exact hlt) hm1).1 (by omega) hn; have hne2 : ((m1 : Int) == (q : Int)) = false := beq_false_of_ne hne; clear hm1))
              go_roundw
              case rel => exact ⟨q + 1, m, by go_num, by omega, rfl, Lib.hid (by have h2 := hm.out; simp only [dsc, if_pos hn]; omega), inferInstance⟩
              case measure => simp [intOf]; omega
            · go_wp2_with (first
                | (go_at_call 144; (with_reducible refine Calls.cFirst (firstC (V := U) (by omega) (by omega) ⟨q, hlt, rfl⟩) ?_); intro w1 _ m1 hm1; obtain rfl : m1 = q := (FirstAt.new (by rw [← hUl.out]; exact hlt) hm1).2 hn; clear hm1))
              go_roundw
              case rel => exact ⟨m1 + 1, m + 1, by go_num, by omega, by go_num, Lib.hid (by have h2 := hm.out; simp only [dsc, if_neg hn]; omega), inferInstance⟩
              case measure => simp [intOf]; omega
          · obtain rfl : m = 3 := by omega
            go_wp2_with fail
            go_roundw
            case rel => exact ⟨q + 1, 3, by go_num, by omega, rfl, Lib.hid (by have h2 := hm.out; have := dsc_mono L (show q ≤ q + 1 by omega); omega), inferInstance⟩
            case measure => simp [intOf]; omega
        · obtain rfl : q = U.length := by omega
          have h3 : m = 3 := by have := HR.out.three; rw [← hUl.out] at this; have := hm.out; omega
          subst h3
          go_wp2_with (first
            | (go_at_call 145; (with_reducible refine Calls.cEdges edgesC ?_); intro w1 _ br _))
          refine range_edges (n := 5) (by omega) rfl (by omega) (V := U) (Br := br) (g := g2) (c := c3) rfl (fun T x b => (((T.setIfInBounds 70 (.int .i64 (x.val : Int))).setIfInBounds 71 (.agg (edL U x.val).toArray)).setIfInBounds 10 (.int .i64 (x.val : Int))).setIfInBounds 11 (.pointer (some ⟨b, 0, none⟩)))
            (fun _ W => Below w1.heap.size w1 W) (fun _ _ _ => False) (ownFrom_below (Nat.le_refl _) (Nat.le_refl _)) (fun _ _ _ _ _ h _ _ => h.elim) (Below.refl _ _) ?assign (fun _ _ _ h k => blw_trans h k.out) (fun _ _ h => h.size) ?body ?done ?stop
          case assign =>
            intro l pre x W K hI hK
            simp only [encE, edL, List.zip_toArray, List.zip_cons_cons, List.zip_nil_right, List.foldl_toArray, List.foldl_cons, List.foldl_nil, List.setIfInBounds_toArray, List.set_cons_zero, List.set_cons_succ]
            simp only [edL, List.setIfInBounds_toArray, List.set_cons_zero, List.set_cons_succ] at hK
            gi_wp2
            refine hK _ _ rfl ?_ ?_
            · infer_instance
            · exact Bx.re rfl
          case body =>
            intro l pre x b W hI hb hx hlt9
            have kw1 := Kp1.mk hI
            obtain ⟨m, hm0⟩ : ∃ m, (x.val + 1) % U.length = m := ⟨_, rfl⟩
            have lq : LtN x.val U.length := ⟨x.isLt⟩
            have lm : LtN m U.length := ⟨by rw [← hm0]; exact Nat.mod_lt _ (by omega)⟩
            have hv : Hid (decide (((pg L x.val).1, (pg L x.val).2) = ((pg L m).1, (pg L m).2)) = false) := Lib.hid (by
              have := HR.out.edge x.val (by rw [← hUl.out]; exact x.isLt)
              rw [← hUl.out, hm0] at this
              exact decide_eq_false (show ¬ _ from this))
            dsimp only [edL] at hx ⊢
            rw [hm0] at hx ⊢
            simp only [List.setIfInBounds_toArray, List.set_cons_zero, List.set_cons_succ]
            gi_wp2_with (first
              | (refine ⟨trivial, ?_⟩; gi_at_call 108; (refine inR ?_); (with_reducible refine Calls.cE (ptEqualV (by omega) hv) ?_); intros))
            exact ⟨keepsK inferInstance, (inferInstance : Kp W _).out.mono hI.size, blw_trans hI (inferInstance : Kp W _).out⟩
          case done =>
            intro D W hD hI hK
            have kw1 := Kp1.mk hI
            have gd : Ge w D := ⟨Nat.le_trans (inferInstance : Kp w w1).out.size hD⟩
            have g0 : w.heap.size + 1 < D := Nat.lt_of_lt_of_le (i4.lt) (Nat.le_trans (Nat.le_trans j1.out.size (inferInstance : Kp wr w1).out.size) hD)
            go_wp2
            refine retM_mark (D := D) rfl (def_set (def_set hK (by omega)) (by omega)) ?_
            have kd : Dp1 ((W.setCell ⟨w.heap.size, 0, none⟩ (.slice (some ⟨g2, 0, none⟩) U.length c3)).setCell ⟨w.heap.size + 1, 0, none⟩ .nilIface) _ D := ⟨rfl, _, def_set (def_set hK (by omega)) (by omega)⟩
            refine ret_se rfl Tryz.underlying131 rfl Tryz.underlying36 rfl rfl rfl rfl ?_
            exact PsFEr.fin (V := U) rfl (Nat.le_refl _)
          case stop => exact fun _ _ _ _ _ _ h _ => h.elim

theorem ringOfThreeO {w w0 : World} {a : Option Addr} {n c : Nat} {V : List AV} {L : List (Rat × Rat)} {k : Nat} [hs : SlO w (.slice a n c) V.length (rowA V) w0] [hp : PsA w V L k] {w1 : World} {aR : Addr} [hR0 : Snt w 3 aR w1] (b : k ≤ 19000) (hV : V.length ≤ 4096) (hD : dsc L L.length < 3) :
    Calls Tryz.prog 77 #[.slice a n c] w (RErr w (.slice none 0 0) aR) := by
  obtain rfl := hs.len
  have hlen := Lib.hid hp.len
  have HD := Lib.hid hD
  clear hD
  have hR := hR0.here
  clear hR0
  have hno : ¬ (4096 < (V.length : Int)) := by omega
  go_enter Tryz.func77, Tryz.ntmps77
  go_wp2_with fail
  go_loopw [21, 4] (fun i o wr => ∃ (q : Nat) (U : List FV), i = .int .i64 (q : Int) ∧ q ≤ V.length ∧ Rn wr o 152 6 U.length (rowF U) (w.heap.size + 1 + 1) wr ∧ Hid (U.length = q) ∧ PsF wr U (L.take q) (k + 2) ∧ Bx wr w.heap.size 131 [.slice none 0 0] ∧ Bx wr (w.heap.size + 1) 36 [.nilIface] ∧ Kp w wr) (fun i _ _ => V.length - (intOf i).toNat)
  case atStart => exact ⟨0, [], rfl, by omega, Rn.nil (by simp), Lib.hid rfl, PsF.nil, inferInstance, inferInstance, inferInstance⟩
  case round =>
    obtain ⟨q, U, rfl, hq, i1, hU, i2, i3, i4, i5⟩ := hrel
    have kw := Kp1.mk i5.out
    by_cases hlt : q < V.length
    · obtain ⟨g, off, rfl, hA⟩ := hs.form (by omega)
      have hlt' : (q : Int) < V.length := by omega
      have lq : LtN q V.length := ⟨hlt⟩
      have ew : IntKind.i64.wrap ((q : Int) + 1) = (q : Int) + 1 := wr_in (by omega) (by omega)
      go_wp2_with (first
        | (go_at_call 142; (with_reducible refine Calls.cE (gNormalA (by omega)) ?_); intros)
        | (go_at_call 123; (with_reducible refine Calls.cPF (ptOfC (by omega)) ?_); intro w1 _ nx dx px ny dy py i7 i8)
        | (at_builtin; go_loud (refine app_rn1 (v := u4) rfl (.tmp 37) (.tmp 40) 131 rfl Tryz.underlying131 info_f rfl (by decide) (by decide) (by decide) inferInstance rfl (rowF_nd _) rfl (by rfl) ?h1 ?h2 (by first | omega | (have := hU.out; omega)) ?_); (case h1 => exact FV.one ⟨_, _, _, _, _, _⟩); (case h2 => exact FV.nd ⟨_, _, _, _, _, _⟩); intro g2 c2 w2 i9 i10 i11))
      go_roundw
      case rel => exact ⟨q + 1, U ++ [⟨nx, dx, px, ny, dy, py⟩], by go_num, by omega, Rn.cast2 (inferInstance) (by simp) (by rw [rowF_snoc]; rfl), Lib.hid (by rw [List.length_append, hU.out]; rfl), by rw [take_pg (by have := hlen.out; omega)]; exact PsF.add (by first | omega | simp) (by first | omega | simp), inferInstance, inferInstance, inferInstance⟩
      case measure => simp [intOf]; omega
    · obtain rfl : q = V.length := by omega
      rw [List.take_of_length_le (by have := hlen.out; omega)] at i2
      have hUl : Hid (U.length = L.length) := Lib.hid (hU.out.trans hlen.out)
      have hU4 : U.length ≤ 4096 := by rw [hU.out]; exact hV
      clear hU hs hq hlt
      obtain ⟨a3, c3, rfl⟩ := i1.slice
      go_wp2_with fail
      go_loopw [45, 7] (fun i d wx => ∃ (q m : Nat), i = .int .i64 (q : Int) ∧ q ≤ U.length ∧ d = .int .i64 (m : Int) ∧ Hid (min 3 (dsc L q) = m) ∧ Kp wr wx) (fun i _ _ => U.length - (intOf i).toNat)
      case atStart => exact ⟨0, 0, rfl, by omega, rfl, Lib.hid rfl, inferInstance⟩
      case round =>
        obtain ⟨q, m, rfl, hq, rfl, hm, j1⟩ := hrel
        have kx := Kp1.mk j1.out
        have hm3 : m ≤ 3 := by rw [← hm.out]; omega
        by_cases hlt : q < U.length
        · have isl : Sl wr (.slice a3 U.length c3) U.length (rowF U) _ := inferInstance
          obtain ⟨g2, rfl, hA2⟩ := isl.form (by omega)
          have hlt' : (q : Int) < U.length := by omega
          have lq : LtN q U.length := ⟨hlt⟩
          have ew : IntKind.i64.wrap ((q : Int) + 1) = (q : Int) + 1 := wr_in (by omega) (by omega)
          have em : IntKind.i64.wrap ((m : Int) + 1) = (m : Int) + 1 := wr_in (by omega) (by omega)
          by_cases h3 : m < 3
          · have h3' : (m : Int) < 3 := by omega
            by_cases hn : pg L q ∈ L.take q
            · go_wp2_with (first
                | (go_at_call 144; go_loud ((with_reducible refine Calls.cFirst (firstC (V := U) (by omega) (by omega) ⟨q, hlt, rfl⟩) ?_); intro w1 _ m1 hm1); have hne : ¬ ((m1 : Int) = (q : Int)) := fun e => (FirstAt.new (by rw [← hUl.out]; exact hlt) hm1).1 (by omega) hn; have hne2 : ((m1 : Int) == (q : Int)) = false := beq_false_of_ne hne; clear hm1))
              go_roundw
              case rel => exact ⟨q + 1, m, by go_num, by omega, rfl, Lib.hid (by have h2 := hm.out; simp only [dsc, if_pos hn]; omega), inferInstance⟩
              case measure => simp [intOf]; omega
            · go_wp2_with (first
                | (go_at_call 144; (with_reducible refine Calls.cFirst (firstC (V := U) (by omega) (by omega) ⟨q, hlt, rfl⟩) ?_); intro w1 _ m1 hm1; obtain rfl : m1 = q := (FirstAt.new (by rw [← hUl.out]; exact hlt) hm1).2 hn; clear hm1))
              go_roundw
              case rel => exact ⟨m1 + 1, m + 1, by go_num, by omega, by go_num, Lib.hid (by have h2 := hm.out; simp only [dsc, if_neg hn]; omega), inferInstance⟩
              case measure => simp [intOf]; omega
          · obtain rfl : m = 3 := by omega
            go_wp2_with fail
            go_roundw
            case rel => exact ⟨q + 1, 3, by go_num, by omega, rfl, Lib.hid (by have h2 := hm.out; have := dsc_mono L (show q ≤ q + 1 by omega); omega), inferInstance⟩
            case measure => simp [intOf]; omega
        · obtain rfl : q = U.length := by omega
          have h3 : m < 3 := by have h2 := HD.out; rw [← hUl.out] at h2; have := hm.out; omega
          have h3' : (m : Int) < 3 := by omega
          go_wp2_with fail
          refine rgn [w.heap.size, w.heap.size + 1] [] fun hHeld => ?_
          refine tk 0 hHeld ?_
          refine tk 1 hHeld ?_
          refine wpAnyT_ready (rs := [2, 4]) (by kernel_rfl) (by simp) ?_
          refine AllT.cons (by simp; rfl) (fun K hK => ?_) (AllT.cons (by simp; rfl) (fun K hK => ?_) AllT.nil)
          go_simp
          refine hd hK ?_
          clear hHeld hK K
          intro hHeld
          refine tk 3 hHeld ?_
          refine st 4 fun K hK => ?_
          go_simp
          refine hd hK ?_
          clear hHeld hK K
          intro hHeld
          refine st 5 fun K hK => ?_
          go_simp
          refine hd hK ?_
          clear hHeld hK K
          intro hHeld
          refine dn ?_
          clear hHeld
          go_wp2
          refine ret_se rfl Tryz.underlying131 rfl Tryz.underlying36 rfl rfl rfl rfl ?_
          exact RErr.fin
          go_simp
          refine hd hK ?_
          clear hHeld hK K
          intro hHeld
          refine st 2 fun K hK => ?_
          go_simp
          refine hd hK ?_
          clear hHeld hK K
          intro hHeld
          refine tk 3 hHeld ?_
          refine st 5 fun K hK => ?_
          go_simp
          refine hd hK ?_
          clear hHeld hK K
          intro hHeld
          refine dn ?_
          clear hHeld
          go_wp2
          refine ret_se rfl Tryz.underlying131 rfl Tryz.underlying36 rfl rfl rfl rfl ?_
          exact RErr.fin
end Go.Proofs.YtdlnoeegboapkaaGreatDoor
