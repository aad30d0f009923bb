/-
  Texts of this claim, joined: Rg3, Rg4, Ord2, Rg1, Rgv, Sr, Rg5.
-/
import Derived.Test.YtdlnoeegboapkaaGreatDoorCN
import Derived.RangeFuncNested
import Derived.RangeFuncBound
import Derived.RangeFuncCalls
import Derived.RangeFuncLeaves
import Derived.RangeFuncFrom
import Derived.RangeFuncWrites
import Derived.Shelf.Abstract
import Derived.Shelf.RegionOpen
import Derived.OwnWalkIn
import Derived.TacticsInMore
import Derived.LoopNIn
import Derived.LoopIn
import Derived.Test.YtdlnoeegboapkaaGreatDoorCL
import Derived.Test.YtdlnoeegboapkaaGreatDoorCM
import Derived.Test.YtdlnoeegboapkaaGreatDoorCH
import Derived.Test.YtdlnoeegboapkaaGreatDoorRows
import Derived.LaidMore
import Derived.Stop.LaidTwo
import Derived.Stop.Joined
/- The edges of a ring: an iterator's contract, and a range over them whose variable lies in a box. printed by a small program (mkrg3.py). -/
namespace Go.Proofs.YtdlnoeegboapkaaGreatDoor
open Go.RowKit
set_option maxRecDepth 100000
set_option maxHeartbeats 40000000
set_option synthInstance.maxSize 100000
set_option synthInstance.maxHeartbeats 1000000
open Go.Shelf
set_option maxRecDepth 100000
set_option maxHeartbeats 40000000
set_option synthInstance.maxSize 100000
set_option synthInstance.maxHeartbeats 1000000

attribute [local go_sem] Oper.semAt_some
theorem nmwp {P : Program} {c : Code} {Q : Exit → Act → World → Prop} {a : Act} {W : World} (R : World → Prop) (h : R W) (k : ∀ W1, R W1 → c.wp P Q a W1) : c.wp P Q a W := k W h
theorem nmreg {F : Fence} {n : Nat} {P : Program} {id : Nat} {ops : Array Oper} {Q : Exit → Act → World → Prop} {a : Act} {W : World} (R : World → Prop) (h : R W) (k : ∀ W1, R W1 → (Code.region id ops true).wpIn F n P Q a W1) : (Code.region id ops true).wpIn F n P Q a W := k W h
/-- The edge i, as yield is handed it. -/
def edL (V : List FV) (i : Nat) : List Value := [.int .i64 (fv V i).nx, .int .i64 (fv V i).dx, .pointer (fv V i).px, .int .i64 (fv V i).ny, .int .i64 (fv V i).dy, .pointer (fv V i).py,
  .int .i64 (fv V ((i + 1) % V.length)).nx, .int .i64 (fv V ((i + 1) % V.length)).dx, .pointer (fv V ((i + 1) % V.length)).px, .int .i64 (fv V ((i + 1) % V.length)).ny, .int .i64 (fv V ((i + 1) % V.length)).dy, .pointer (fv V ((i + 1) % V.length)).py]
def encE (V : List FV) (i : Fin V.length) : Array Value := #[.int .i64 ((i.val : Nat) : Int), .agg (edL V i.val).toArray]
theorem upto_succ {n q : Nat} (h : q < n) : (List.finRange n).take (q + 1) = (List.finRange n).take q ++ [⟨q, h⟩] := by
  rw [List.take_succ_eq_append_getElem (by simpa using h)]
  simp
theorem edges1_in (n : Nat) (hn : 1 ≤ n) (l Br n₀ g c : Nat) (V : List FV) (hV : V.length ≤ 1000000) (hg : g < n₀) (hBr : Br < n₀) (J Jx : List (Fin V.length) → World → Prop) (W : World) (hn₀ : n₀ ≤ W.heap.size) (hJ : AbidesFrom W.heap.size J)
    (hY : ∀ pre x W1, J pre W1 → pre.length < V.length → YieldAt Fence.wide (n - 1) Tryz.prog l (encE V x) W1 fun e W' =>
      (e = .returned (.bool true) ∧ J (pre ++ [x]) W' ∧ Below n₀ W1 W') ∨ (e = .returned (.bool false) ∧ Jx (pre ++ [x]) W'))
    [hB : Bx W Br 131 [.slice (some ⟨g, 0, none⟩) V.length c]] {w0 : World} [hA : At W g (rowF V) w0] (h0 : J [] W) :
    CallsIn Fence.wide n Tryz.prog 202 #[.func (.yield l) #[] #[], .pointer (some ⟨Br, 0, none⟩)] W fun e W' => (∃ v, e = .returned v) ∧
      ((∃ ys, ys = List.finRange V.length ∧ J ys W') ∨ (∃ pre, pre <+: List.finRange V.length ∧ Jx pre W')) := by
  have hmx : Tryz.prog.follows .mixedOrders = true := by kernel_rfl
  refine callsIn_of_wp Tryz.func202 rfl trivial ?_ rfl
  simp only [Tryz.ntmps202, List.size_toArray, List.length_cons, List.length_nil, Nat.reduceAdd, Nat.reduceSub, Array.replicate_succ, Array.replicate_zero, List.push_toArray, List.append_toArray, List.nil_append, List.cons_append]
  gi_wp2
  gi_loopw [7] (fun i wr => ∃ q : Nat, q ≤ V.length ∧ i = .int .i64 (q : Int) ∧ J ((List.finRange V.length).take q) wr ∧ Below n₀ W wr) (fun i _ => V.length - (intOf i).toNat)
  case atStart => exact ⟨0, Nat.zero_le _, rfl, by simpa using h0, Below.refl _ _⟩
  case round =>
    obtain ⟨q, hq, rfl, hJs, hnx⟩ := hrel
    by_cases hlt : q < V.length
    · have hlt' : (q : Int) < V.length := by omega
      have i1 : Bx wr Br 131 [.slice (some ⟨g, 0, none⟩) V.length c] := ⟨(hnx.block Br hBr).trans hB.out⟩
      have i2 : At wr g (rowF V) wr := ⟨fun j u hu => (hnx.cell (p := ⟨g, j, none⟩) hg).trans (hA.out j u hu), Nat.lt_of_lt_of_le (Nat.lt_of_lt_of_le hg hn₀) hnx.size, Nat.lt_of_lt_of_le (Nat.lt_of_lt_of_le hg hn₀) hnx.size⟩
      have ew : IntKind.i64.wrap ((q : Int) + 1) = (q : Int) + 1 := wr_in (by omega) (by omega)
      obtain ⟨m, hm0⟩ : ∃ m, (q + 1) % V.length = m := ⟨_, rfl⟩
      have hm : m < V.length := by rw [← hm0]; exact Nat.mod_lt _ (by omega)
      have hm' : (m : Int) < V.length := by omega
      have er : ((q : Int) + 1).tmod (V.length : Int) = (m : Int) := by
        rw [← hm0, show (q : Int) + 1 = ((q + 1 : Nat) : Int) by omega]; exact (Int.ofNat_tmod _ _).symm
      have HM := Lib.hid hm0
      clear hm0
      have hz : ¬ ((V.length : Int) = 0) := by omega
      have hz2 : ¬ (V.length = 0) := by omega
      have hz3 : V ≠ [] := fun e => by rw [e] at hlt; simp at hlt
      gi_wp2
      refine nmreg (fun W4 => Kp wr W4 ∧ Bx W4 wr.heap.size 152 (fv V q).l ∧ Bx W4 Br 131 [.slice (some ⟨g, 0, none⟩) V.length c] ∧ At W4 g (rowF V) wr) ⟨inferInstance, Bx.re rfl, inferInstance, inferInstance⟩ ?_
      intro W4 ⟨k1, k2, k3, k4⟩
      have hJ4 := hJ _ _ W4.drew none hJs (below_gb (inferInstance : Kp wr W4.drew).out) (fun r e => by cases e)
      obtain ⟨fn, tmps, assign, body, hy, hR⟩ := hY _ ⟨q, hlt⟩ _ hJ4 (by simp; omega)
      have hR' := hR.mono (R' := fun e W' => ∃ b : Bool, e = .returned (.bool b) ∧ (b = true → J ((List.finRange V.length).take (q + 1)) W' ∧ Below n₀ W4.drew W') ∧ (b = false → Jx ((List.finRange V.length).take (q + 1)) W')) (by
        rintro e W' (⟨h1, h2, h3⟩ | ⟨h1, h2⟩)
        · exact ⟨true, h1, fun _ => ⟨(by rw [upto_succ hlt]; exact h2), h3⟩, fun h => (by cases h)⟩
        · exact ⟨false, h1, fun h => (by cases h), fun _ => (by rw [upto_succ hlt]; exact h2)⟩)
      clear hR
      dsimp only [encE, edL] at hy
      rw [HM.out] at hy
      simp only [FV.l] at k2
      clear hY hJ
      gi_region_with_o (refine hR'.mono ?_; rintro e W5 ⟨b, rfl, hb1, hb2⟩)
      all_goals
        cases b with
        | true =>
          obtain ⟨hJ5, hk5⟩ := hb1 rfl
          have hk6 : Below n₀ wr W5 := ((inferInstance : Kp wr W4.drew).out.mono (Nat.le_trans hn₀ hnx.size)).trans hk5
          gi_wp2
          go_roundw
          case rel => exact ⟨q + 1, by omega, by go_num, hJ5, hnx.trans hk6⟩
          case measure => simp [intOf]; omega
        | false =>
          have hx5 := hb2 rfl
          gi_wp2
          refine bodyPost_ret (results_none rfl _ _ _) rfl ?_
          exact ⟨⟨_, rfl⟩, .inr ⟨_, List.take_prefix _ _, hx5⟩⟩
    · obtain rfl : q = V.length := by omega
      gi_wp2
      go_end0
      exact ⟨⟨_, rfl⟩, .inl ⟨_, rfl, by rw [List.take_of_length_le (by simp)] at hJs; exact hJs⟩⟩
theorem edgesC {w : World} {a : Option Addr} {n c : Nat} : Calls Tryz.prog 145 #[.slice a n c] w fun e w' => e = .returned (.func (.func 202) #[] #[.pointer (some ⟨w.heap.size, 0, none⟩)]) ∧ w' = w.alloc (.cells #[.slice a n c] 131) := by
  go_enter Tryz.func145, Tryz.ntmps145
  go_wp2
  go_ret
  exact ⟨rfl, rfl⟩
theorem Calls.cEdges {P : Program} {f : FuncId} {args : Array Value} {w : World} {fe : Nat} {t : TypeId} {v : Value} {K : Ending → World → Prop} (h : Calls P f args w fun e w' => e = .returned (.func (.func fe) #[] #[.pointer (some ⟨w.heap.size, 0, none⟩)]) ∧ w' = w.alloc (.cells #[v] t))
    (hK : ∀ w' [Kp1 w w'] (b : Nat) [Bx w' b t [v]], K (.returned (.func (.func fe) #[] #[.pointer (some ⟨b, 0, none⟩)])) w') : Calls P f args w K := by
  refine h.mono ?_
  rintro e w' ⟨rfl, rfl⟩
  exact @hK _ ⟨blw_one _ _⟩ _ (inferInstance : Bx (w.alloc (.cells [v].toArray t (0, 0))) w.heap.size t [v])
theorem edges_stops (n : Nat) (hn : 1 ≤ n) (Br g c : Nat) (V : List FV) (hV : V.length ≤ 1000000) (w : World) {w0 : World} [hB : Bx w Br 131 [.slice (some ⟨g, 0, none⟩) V.length c]] [hA : At w g (rowF V) w0] :
    SeqStopsK Fence.wide n Tryz.prog 202 #[.pointer (some ⟨Br, 0, none⟩)] (encE V) (Below w.heap.size) (fun ys => ys = List.finRange V.length) (fun pre => pre <+: List.finRange V.length) V.length w := fun l J Jx W hW hJ _ hY h0 => by
  have kW : Kp1 w W := ⟨hW⟩
  exact edges1_in n hn l Br w.heap.size g c V hV hA.ltW hB.lt J Jx W hW.size hJ hY h0
/-- A range over the edges, whose variable lies in a box: the frame of a round is that at its beginning, with the slots pi and pe set, and i and e behind them. -/
theorem range_edges {n : Nat} {Q : Exit → Act → World → Prop} {w w0 : World} {go_ : Operand} {ps : Array Tmp} {assign body : Code} {Ts : Array Value} {Br g c : Nat} {V : List FV} (hn : 3 ≤ n) (hg : Act.eval { tmps := Ts, defers := [] } go_ = .func (.func 202) #[] #[.pointer (some ⟨Br, 0, none⟩)]) (hV : V.length ≤ 1000000)
    [hB : Bx w Br 131 [.slice (some ⟨g, 0, none⟩) V.length c]] [hA : At w g (rowF V) w0] (hps : ps.size = 2) (upd : Array Value → Fin V.length → Nat → Array Value)
    (I : List (Fin V.length) → World → Prop) (Ix : Code → List (Fin V.length) → World → Prop) (hI : OwnFrom w.heap.size I) (hIx : ∀ c, OwnFrom w.heap.size (Ix c)) (h0 : I [] w)
    (hassign : ∀ (l : Nat) (pre : List (Fin V.length)) (x : Fin V.length) (W : World) (K : Act → World → Prop), I pre W → (∀ W' b, W.heap.size = b → Kp W W' → Bx W' b 238 (edL V x.val) → K { tmps := upd Ts x b, defers := [] } W') →
      assign.wpIn (Fence.wide.inRound l) (n - 1 - 1) Tryz.prog (Exit.then K (fun _ _ _ => False)) { tmps := (ps.zip (encE V x)).foldl (fun t (p, v) => t.setIfInBounds p v) Ts, defers := [] } W)
    (hIb : ∀ pre W W', I pre W → Kp W W' → I pre W') (hIs : ∀ pre W, I pre W → w.heap.size ≤ W.heap.size)
    (hbody : ∀ (l : Nat) (pre : List (Fin V.length)) (x : Fin V.length) (b : Nat) (W : World), I pre W → w.heap.size ≤ b → Bx W b 238 (edL V x.val) → pre.length < V.length → body.wpIn (Fence.wide.inRound l) (n - 1 - 1) Tryz.prog (ownPostG w.heap.size (Below w.heap.size) I Ix (pre ++ [x]) W) { tmps := upd Ts x b, defers := [] } W)
    (hdone : ∀ (D : Nat) (W : World), w.heap.size ≤ D → I (List.finRange V.length) W → W.heap[D]? = some (.deferred (some [])) → Q .normal { tmps := Ts, defers := [{ target := .collected D, args := #[] }] } W)
    (hstop : ∀ (D : Nat) (c : Code) (pre : List (Fin V.length)) (W : World), w.heap.size ≤ D → pre <+: List.finRange V.length → Ix c pre W → W.heap[D]? = some (.deferred (some [])) → c.wpIn Fence.wide n Tryz.prog Q { tmps := Ts, defers := [{ target := .collected D, args := #[] }] } W) :
    (Code.rangeFunc go_ ps assign body).wp Tryz.prog Q { tmps := Ts, defers := [] } w := by
  refine (wpIn_wide (n := n)).1 ?_
  refine wpIn_rangeFunc_ownH rfl (by omega) hg trivial (enters_of Tryz.func202 (by kernel_rfl) rfl) (edges_stops (n - 1) (by omega) Br g c V hV w (w0 := w0)) belowK_t (belowK_b (Nat.le_refl _)) (Below.refl _ _) (fun _ => by rw [hps]; rfl)
    I Ix hI hIx h0 (fun x a' W => ∃ b, w.heap.size ≤ b ∧ Bx W b 238 (edL V x.val) ∧ a' = { tmps := upd Ts x b, defers := [] }) ?_ ?_ ?_ ?_ ?_
  · intro x a' s A B row ⟨b, h1, h2, h3⟩ hgr hr
    refine ⟨b, h1, ⟨?_⟩, h3⟩
    rw [hgr.block b h2.lt (fun e => ?_)]
    · exact h2.out
    · obtain ⟨_, o, ho, hc⟩ := hr b e.symm
      rw [h2.out] at ho
      cases ho
      cases hc
  · intro l pre x W K hi hK
    refine hassign l pre x W K hi (fun W' b hb hk hx => ?_)
    have hs := hIs _ _ hi
    exact hK _ _ ((KeepsOthers.of_grownBy (row := none) (below_gb hk.out) (fun j o e => by cases e)).from _) (hk.out.mono hs) (hIb _ _ _ hi hk) ⟨b, by omega, hx, rfl⟩
  · rintro l pre x a' W _ _ hi ⟨b, h1, h2, rfl⟩ hlt
    exact hbody l pre x b W hi h1 h2 hlt
  · rintro D xs W hD rfl hi hK
    exact hdone D W hD hi hK
  · exact hstop
end Go.Proofs.YtdlnoeegboapkaaGreatDoor

/- geo.RingOf at a valid ring. printed by a small program (mkrg4.py). -/
namespace Go.Proofs.YtdlnoeegboapkaaGreatDoor
open Go.RowKit
set_option maxRecDepth 100000
set_option maxHeartbeats 40000000
set_option synthInstance.maxSize 100000
set_option synthInstance.maxHeartbeats 1000000
set_option linter.unusedVariables false
attribute [local go_sem] Oper.semAt_some

/-- A function whose body holds a range over a function. -/
theorem calls_marks {P : Program} {f : FuncId} {fn : Func} {c : Code} {args : Array Value} {w : World} {R : Ending → World → Prop} (hf : P.funcs[f]? = some fn) (hb : fn.body = some c)
    (h : c.wp P (bodyPostM Fence.wide 5 P fn R) { tmps := args ++ Array.replicate (fn.ntmps - args.size) undef, defers := [] } w) : Calls P f args w R :=
  (callsIn_wide (n := 5)).1 (callsIn_of_wp_marks hf hb trivial ((wpIn_wide (n := 5)).2 h) rfl)
theorem retM_nil {P : Program} {fn : Func} {R : Ending → World → Prop} {a : Act} {w : World} (h : bodyPost P fn R .ret a w) : bodyPostM Fence.wide 5 P fn R .ret a w := by
  obtain ⟨h1, v, h2, h3⟩ := h
  show LeavesInM _ _ _ _ _ _ a.defers .returning w
  rw [h1]
  exact ⟨v, h2, h3⟩
theorem retM_mark {P : Program} {fn : Func} {R : Ending → World → Prop} {a : Act} {w : World} {D : Nat} (hd : a.defers = [{ target := .collected D, args := #[] }]) (hK : w.heap[D]? = some (.deferred (some [])))
    (h : bodyPost P fn R .ret { a with defers := [] } (w.putObj D (.deferred none))) : bodyPostM Fence.wide 5 P fn R .ret a w := by
  obtain ⟨_, v, h2, h3⟩ := h
  show LeavesInM _ _ _ _ _ _ a.defers .returning w
  rw [hd]
  exact ⟨by simp, .inl ⟨_, _, rfl, run_takeDeferred hK, v, h2, h3⟩⟩
theorem inR {l n : Nat} {P : Program} {f : FuncId} {args : Array Value} {W : World} {K : Ending → World → Prop} (h : Calls P f args W K) : CallsIn (Fence.wide.inRound l) n P f args W K := CallsIn.inRound l (callsIn_wide.2 h)
theorem keepsK {B : Nat} {W W' : World} (h : Kp W W') : KeepsFrom B W W' := (KeepsOthers.of_grownBy (row := none) (below_gb h.out) (fun j o e => by cases e)).from _
/-- From W to W2 just a block for deferred calls, D, was shut. -/
class Dp1 (W : outParam World) (W2 : World) (D : outParam Nat) : Prop where
  eq : W2 = W.putObj D (.deferred none)
  was : ∃ x, W.heap[D]? = some (.deferred x)
section
variable {W W2 w0 w : World} {D : Nat}
theorem Dp1.size (k : Dp1 W W2 D) : W2.heap.size = W.heap.size := by rw [k.eq]; simp [World.putObj]
theorem Dp1.block (k : Dp1 W W2 D) {b : Nat} (h : b ≠ D) : W2.heap[b]? = W.heap[b]? := by
  rw [k.eq]; simp only [World.putObj, Array.getElem?_setIfInBounds]
  rw [if_neg (fun e => h e.symm)]
theorem Dp1.cells (k : Dp1 W W2 D) {b : Nat} {l : Array Value} {t : TypeId} {z : Nat × Nat} (h : W.heap[b]? = some (.cells l t z)) : W2.heap[b]? = some (.cells l t z) := by
  obtain ⟨x, hx⟩ := k.was
  rw [k.block (fun e => by rw [e, hx] at h; cases h)]
  exact h
theorem Dp1.cell (k : Dp1 W W2 D) {a : Addr} {v : Value} (h : W.cell? a = some v) : W2.cell? a = some v := by
  obtain ⟨x, hx⟩ := k.was
  have hb : W2.heap[a.block]? = W.heap[a.block]? := k.block (fun e => by
    unfold World.cell? at h
    rw [e, hx] at h
    simp at h)
  unfold World.cell? at h ⊢
  rw [hb]
  exact h
theorem Rd.dp {v : Value} {l : List Nat} (h : Rd W v l) (k : Dp1 W W2 D) : Rd W2 v l := by
  obtain ⟨a, cap, rfl, h1, h2, h3, h4⟩ := h
  refine ⟨a, cap, rfl, h1, h2, h3, fun h0 => ?_⟩
  obtain ⟨b, off, rfl, hcell⟩ := h4 h0
  exact ⟨b, off, rfl, fun j hj => k.cell (hcell j hj)⟩
theorem Pres.dp (k : Dp1 W W2 D) : Pres W W2 := ⟨fun h => ⟨h.1.dp k, h.2⟩, fun h => by obtain ⟨l, h1, h2⟩ := h; exact ⟨l, h1.dp k, h2⟩, fun {b l} y => k.cells y⟩
instance (priority := low) CN.dp {v : Value} {n k : Nat} [b : Dp1 W W2 D] [h : CN W v n k] : CN W2 v n k := ⟨(Pres.dp b).nn h.out⟩
instance (priority := low) CQ.dp {v : Value} {q : Rat} {k : Nat} [b : Dp1 W W2 D] [h : CQ W v q k] : CQ W2 v q k := ⟨h.out.map (Pres.dp b)⟩
instance (priority := low) CA.dp {v : Value} {q : Rat} {k : Nat} [b : Dp1 W W2 D] [h : CA W v q k] : CA W2 v q k := ⟨h.out.map (Pres.dp b)⟩
instance (priority := low) CF.dp {v : Value} {q : Rat} {k : Nat} [b : Dp1 W W2 D] [h : CF W v q k] : CF W2 v q k := ⟨h.out.map (Pres.dp b)⟩
instance (priority := low) Bx.dp {b : Nat} {t : TypeId} {l : List Value} [k : Dp1 W W2 D] [h : Bx W b t l] : Bx W2 b t l := ⟨k.cells h.out⟩
instance (priority := low) At.dp {g : Nat} {xs : List Value} [k : Dp1 W W2 D] [h : At W g xs w0] : At W2 g xs w0 := ⟨fun j u hu => k.cell (h.out j u hu), h.lt, by rw [k.size]; exact h.ltW⟩
instance (priority := low) Sl.dp {v : Value} {n : Nat} {xs : List Value} [k : Dp1 W W2 D] [h : Sl W v n xs w0] : Sl W2 v n xs w0 := by
  refine ⟨?_, h.lt, by rw [k.size]; exact h.ltW⟩
  rcases h.out with e | ⟨g, c, e, hn, hc⟩
  · exact .inl e
  · exact .inr ⟨g, c, e, hn, fun j u hu => k.cell (hc j u hu)⟩
instance (priority := low) Kp.dp [k : Dp1 W W2 D] [h : Kp w W] [n : Ge w D] : Kp w W2 := ⟨h.out.trans (by
  obtain ⟨x, hx⟩ := k.was
  rw [k.eq]
  exact ⟨rfl, rfl, rfl, by simp [World.putObj], fun i hi => by
    simp only [World.putObj, Array.getElem?_setIfInBounds]
    rw [if_neg (by have := n.out; omega)]⟩)⟩
instance PsF.dp {V : List FV} {L : List (Rat × Rat)} {k : Nat} [b : Dp1 W W2 D] [h : PsF W V L k] : PsF W2 V L k := ⟨h.len, fun i hi => by have := h.x i hi; infer_instance, fun i hi => by have := h.y i hi; infer_instance⟩
end
instance : BoxT 131 := by constructor <;> decide
instance : BoxT 238 := by constructor <;> decide
theorem def_set {W : World} {q i D : Nat} {x : Value} {y : Option (List Deferred)} (h : W.heap[D]? = some (.deferred y)) (hn : q ≠ D) : (W.setCell ⟨q, i, none⟩ x).heap[D]? = some (.deferred y) := by
  simp only [World.setCell, Array.getElem?_modify]
  rw [if_neg hn]; exact h
theorem load_one {P : Program} {W : World} {b : Nat} {ty t : TypeId} {d : TypeDesc} {v : Value} {l : List Value} [h : Bx W b t (v :: l)] (hu : P.underlying ty = some d) (hd : (match d with | .struct _ | .array _ _ => true | _ => false) = false) : (loadVar ty ⟨b, 0, none⟩).run P W = .ok v W := by
  have hagg : (isAgg ty).run P W = .ok false W := by
    unfold isAgg
    rw [Sem.run_bind, run_underlying hu W]
    cases d <;> simp_all
  have hc : W.cell? ⟨b, 0, none⟩ = some v := by rw [cell_bx]; rfl
  simp [loadVar, hagg, hc]
theorem ret_cc {P : Program} {fn : Func} {R : Ending → World → Prop} {a : Act} {W : World} {p q : Tmp} {ty ty2 : TypeId} {b1 b2 : Nat} {v1 v2 : Value} (hr : fn.results = #[.cell p ty, .cell q ty2])
    (hp : a.tmps.getD p undef = .pointer (some ⟨b1, 0, none⟩)) (hq : a.tmps.getD q undef = .pointer (some ⟨b2, 0, none⟩)) (h1 : (loadVar ty ⟨b1, 0, none⟩).run P W = .ok v1 W) (h2 : (loadVar ty2 ⟨b2, 0, none⟩).run P W = .ok v2 W)
    (hdf : a.defers = []) (hR : R (.returned (.tuple #[v1, v2])) W) : bodyPost P fn R .ret a W := by
  refine ⟨hdf, _, ?_, hR⟩
  have hp' : a.tmps[p]?.getD undef = .pointer (some ⟨b1, 0, none⟩) := by simpa using hp
  have hq' : a.tmps[q]?.getD undef = .pointer (some ⟨b2, 0, none⟩) := by simpa using hq
  simp [results, hr, hp', hq', asAddr, h1, h2]
/-- The end of a walk: a slice and an error, each out of its box. -/
theorem ret_se {P : Program} {fn : Func} {R : Ending → World → Prop} {a : Act} {W : World} {p q : Tmp} {ty ty2 t1 t2 : TypeId} {d d2 : TypeDesc} {b1 b2 : Nat} {v1 v2 : Value} [i1 : Bx W b1 t1 [v1]] [i2 : Bx W b2 t2 [v2]] (hr : fn.results = #[.cell p ty, .cell q ty2])
    (hu : P.underlying ty = some d) (hd : (match d with | .struct _ | .array _ _ => true | _ => false) = false) (hu2 : P.underlying ty2 = some d2) (hd2 : (match d2 with | .struct _ | .array _ _ => true | _ => false) = false)
    (hp : a.tmps.getD p undef = .pointer (some ⟨b1, 0, none⟩)) (hq : a.tmps.getD q undef = .pointer (some ⟨b2, 0, none⟩)) (hdf : a.defers = []) (hR : R (.returned (.tuple #[v1, v2])) W) : bodyPost P fn R .ret a W :=
  ret_cc hr hp hq (load_one hu hd) (load_one hu2 hd2) hdf hR
theorem ringOfOk {w w0 : World} {a : Option Addr} {n c : Nat} {V : List AV} {L : List (Rat × Rat)} {k : Nat} [hs : Sl w (.slice a n c) V.length (rowA V) w0] [hp : PsA w V L k] (b : k ≤ 19000) (hV : V.length ≤ 4096) (hR : RingOK L) :
    Calls Tryz.prog 77 #[.slice a n c] w (PsFEr w L (k + 2)) := by
  obtain rfl := hs.len
  have hlen := Lib.hid hp.len
  have hpos : 0 < V.length := by rw [hlen.out]; exact hR.pos
  have HR := Lib.hid hR
  clear hR
  obtain ⟨g, rfl, hA⟩ := hs.form hpos
  have hno : ¬ (4096 < (V.length : Int)) := by omega
  refine calls_marks Tryz.func77 rfl ?_
  simp only [Tryz.ntmps77, List.size_toArray, List.length_cons, List.length_nil, Nat.reduceAdd, Nat.reduceSub, Array.replicate_succ, Array.replicate_zero, List.push_toArray, List.append_toArray, List.nil_append, List.cons_append]
  go_wp2_with fail
  go_loopw [21, 4] (fun i o wr => ∃ (q : Nat) (U : List FV), i = .int .i64 (q : Int) ∧ q ≤ V.length ∧ Rn wr o 152 6 U.length (rowF U) (w.heap.size + 1 + 1) wr ∧ Hid (U.length = q) ∧ PsF wr U (L.take q) (k + 2) ∧ Bx wr w.heap.size 131 [.slice none 0 0] ∧ Bx wr (w.heap.size + 1) 36 [.nilIface] ∧ Kp w wr) (fun i _ _ => V.length - (intOf i).toNat)
  case atStart => exact ⟨0, [], rfl, by omega, Rn.nil (by simp), Lib.hid rfl, PsF.nil, inferInstance, inferInstance, inferInstance⟩
  case round =>
    obtain ⟨q, U, rfl, hq, i1, hU, i2, i3, i4, i5⟩ := hrel
    have kw := Kp1.mk i5.out
    by_cases hlt : q < V.length
    · have hlt' : (q : Int) < V.length := by omega
      have lq : LtN q V.length := ⟨hlt⟩
      have ew : IntKind.i64.wrap ((q : Int) + 1) = (q : Int) + 1 := wr_in (by omega) (by omega)
      go_wp2_with (first
        | (go_at_call 142; (with_reducible refine Calls.cE (gNormalA (by omega)) ?_); intros)
        | (go_at_call 123; (with_reducible refine Calls.cPF (ptOfC (by omega)) ?_); intro w1 _ nx dx px ny dy py i7 i8)
        | (at_builtin; go_loud (refine app_rn1 (v := u4) rfl (.tmp 37) (.tmp 40) 131 rfl Tryz.underlying131 info_f rfl (by decide) (by decide) (by decide) inferInstance rfl (rowF_nd _) rfl (by rfl) ?h1 ?h2 (by first | omega | (have := hU.out; omega)) ?_); (case h1 => exact FV.one ⟨_, _, _, _, _, _⟩); (case h2 => exact FV.nd ⟨_, _, _, _, _, _⟩); intro g2 c2 w2 i9 i10 i11))
      go_roundw
      case rel => exact ⟨q + 1, U ++ [⟨nx, dx, px, ny, dy, py⟩], by go_num, by omega, Rn.cast2 (inferInstance) (by simp) (by rw [rowF_snoc]; rfl), Lib.hid (by rw [List.length_append, hU.out]; rfl), by rw [take_pg (by have := hlen.out; omega)]; exact PsF.add (by first | omega | simp) (by first | omega | simp), inferInstance, inferInstance, inferInstance⟩
      case measure => simp [intOf]; omega
    · obtain rfl : q = V.length := by omega
      rw [List.take_of_length_le (by have := hlen.out; omega)] at i2
      have hUl : Hid (U.length = L.length) := Lib.hid (hU.out.trans hlen.out)
      have hU4 : U.length ≤ 4096 := by rw [hU.out]; exact hV
      have hU0 : 0 < U.length := by rw [hU.out]; exact hpos
      clear hU hs hq hlt hA
      obtain ⟨a3, c3, rfl⟩ := i1.slice
      obtain ⟨g2, rfl, hA2⟩ := (Sl.ofRn (h := i1)).form hU0
      go_wp2_with fail
      go_loopw [45, 7] (fun i d wx => ∃ (q m : Nat), i = .int .i64 (q : Int) ∧ q ≤ U.length ∧ d = .int .i64 (m : Int) ∧ Hid (min 3 (dsc L q) = m) ∧ Kp wr wx) (fun i _ _ => U.length - (intOf i).toNat)
      case atStart => exact ⟨0, 0, rfl, by omega, rfl, Lib.hid rfl, inferInstance⟩
      case round =>
        obtain ⟨q, m, rfl, hq, rfl, hm, j1⟩ := hrel
        have kx := Kp1.mk j1.out
        have hm3 : m ≤ 3 := by rw [← hm.out]; omega
        by_cases hlt : q < U.length
        · have hlt' : (q : Int) < U.length := by omega
          have lq : LtN q U.length := ⟨hlt⟩
          have ew : IntKind.i64.wrap ((q : Int) + 1) = (q : Int) + 1 := wr_in (by omega) (by omega)
          have em : IntKind.i64.wrap ((m : Int) + 1) = (m : Int) + 1 := wr_in (by omega) (by omega)
          by_cases h3 : m < 3
          · have h3' : (m : Int) < 3 := by omega
            by_cases hn : pg L q ∈ L.take q
            · go_wp2_with (first
                | (go_at_call 144; go_loud ((with_reducible refine Calls.cFirst (firstC (V := U) (by omega) (by omega) ⟨q, hlt, rfl⟩) ?_); intro w1 _ m1 hm1); have hne : ¬ ((m1 : Int) = (q : Int)) := fun e => (FirstAt.new (by rw [← hUl.out]; exact hlt) hm1).1 (by omega) hn; have hne2 : ((m1 : Int) == (q : Int)) = false := beq_false_of_ne hne; clear hm1))
              go_roundw
              case rel => exact ⟨q + 1, m, by go_num, by omega, rfl, Lib.hid (by have h2 := hm.out; simp only [dsc, if_pos hn]; omega), inferInstance⟩
              case measure => simp [intOf]; omega
            · go_wp2_with (first
                | (go_at_call 144; (with_reducible refine Calls.cFirst (firstC (V := U) (by omega) (by omega) ⟨q, hlt, rfl⟩) ?_); intro w1 _ m1 hm1; obtain rfl : m1 = q := (FirstAt.new (by rw [← hUl.out]; exact hlt) hm1).2 hn; clear hm1))
              go_roundw
              case rel => exact ⟨m1 + 1, m + 1, by go_num, by omega, by go_num, Lib.hid (by have h2 := hm.out; simp only [dsc, if_neg hn]; omega), inferInstance⟩
              case measure => simp [intOf]; omega
          · obtain rfl : m = 3 := by omega
            go_wp2_with fail
            go_roundw
            case rel => exact ⟨q + 1, 3, by go_num, by omega, rfl, Lib.hid (by have h2 := hm.out; have := dsc_mono L (show q ≤ q + 1 by omega); omega), inferInstance⟩
            case measure => simp [intOf]; omega
        · obtain rfl : q = U.length := by omega
          have h3 : m = 3 := by have := HR.out.three; rw [← hUl.out] at this; have := hm.out; omega
          subst h3
          go_wp2_with (first
            | (go_at_call 145; (with_reducible refine Calls.cEdges edgesC ?_); intro w1 _ br _))
          refine range_edges (n := 5) (by omega) rfl (by omega) (V := U) (Br := br) (g := g2) (c := c3) rfl (fun T x b => (((T.setIfInBounds 70 (.int .i64 (x.val : Int))).setIfInBounds 71 (.agg (edL U x.val).toArray)).setIfInBounds 10 (.int .i64 (x.val : Int))).setIfInBounds 11 (.pointer (some ⟨b, 0, none⟩)))
            (fun _ W => Below w1.heap.size w1 W) (fun _ _ _ => False) (ownFrom_below (Nat.le_refl _) (Nat.le_refl _)) (fun _ _ _ _ _ h _ _ => h.elim) (Below.refl _ _) ?assign (fun _ _ _ h k => blw_trans h k.out) (fun _ _ h => h.size) ?body ?done ?stop
          case assign =>
            intro l pre x W K hI hK
            simp only [encE, edL, List.zip_toArray, List.zip_cons_cons, List.zip_nil_right, List.foldl_toArray, List.foldl_cons, List.foldl_nil, List.setIfInBounds_toArray, List.set_cons_zero, List.set_cons_succ]
            simp only [edL, List.setIfInBounds_toArray, List.set_cons_zero, List.set_cons_succ] at hK
            gi_wp2
            refine hK _ _ rfl ?_ ?_
            · infer_instance
            · exact Bx.re rfl
          case body =>
            intro l pre x b W hI hb hx hlt9
            have kw1 := Kp1.mk hI
            obtain ⟨m, hm0⟩ : ∃ m, (x.val + 1) % U.length = m := ⟨_, rfl⟩
            have lq : LtN x.val U.length := ⟨x.isLt⟩
            have lm : LtN m U.length := ⟨by rw [← hm0]; exact Nat.mod_lt _ (by omega)⟩
            have hv : Hid (decide (((pg L x.val).1, (pg L x.val).2) = ((pg L m).1, (pg L m).2)) = false) := Lib.hid (by
              have := HR.out.edge x.val (by rw [← hUl.out]; exact x.isLt)
              rw [← hUl.out, hm0] at this
              exact decide_eq_false (show ¬ _ from this))
            dsimp only [edL] at hx ⊢
            rw [hm0] at hx ⊢
            simp only [List.setIfInBounds_toArray, List.set_cons_zero, List.set_cons_succ]
            gi_wp2_with (first
              | (refine ⟨trivial, ?_⟩; gi_at_call 108; (refine inR ?_); (with_reducible refine Calls.cE (ptEqualV (by omega) hv) ?_); intros))
            exact ⟨keepsK inferInstance, (inferInstance : Kp W _).out.mono hI.size, blw_trans hI (inferInstance : Kp W _).out⟩
          case done =>
            intro D W hD hI hK
            have kw1 := Kp1.mk hI
            have gd : Ge w D := ⟨Nat.le_trans (inferInstance : Kp w w1).out.size hD⟩
            have g0 : w.heap.size + 1 < D := Nat.lt_of_lt_of_le (i4.lt) (Nat.le_trans (Nat.le_trans j1.out.size (inferInstance : Kp wr w1).out.size) hD)
            go_wp2
            refine retM_mark (D := D) rfl (def_set (def_set hK (by omega)) (by omega)) ?_
            have kd : Dp1 ((W.setCell ⟨w.heap.size, 0, none⟩ (.slice (some ⟨g2, 0, none⟩) U.length c3)).setCell ⟨w.heap.size + 1, 0, none⟩ .nilIface) _ D := ⟨rfl, _, def_set (def_set hK (by omega)) (by omega)⟩
            refine ret_se rfl Tryz.underlying131 rfl Tryz.underlying36 rfl rfl rfl rfl ?_
            exact PsFEr.fin (V := U) rfl (Nat.le_refl _)
          case stop => exact fun _ _ _ _ _ _ h _ => h.elim
end Go.Proofs.YtdlnoeegboapkaaGreatDoor

/- The orders of points and of directions, the reference's primitive vectors. printed by a small program (mkord.py). -/
namespace Go.Proofs.YtdlnoeegboapkaaGreatDoor
open Go.RowKit
set_option maxRecDepth 100000
set_option maxHeartbeats 40000000
set_option synthInstance.maxSize 100000
set_option synthInstance.maxHeartbeats 1000000

/-- The order of points. -/
def cmpR (x1 y1 x2 y2 : Rat) : Int := if isgn (x1 - x2).num = 0 then isgn (y1 - y2).num else isgn (x1 - x2).num
theorem ptCmpC {w : World} {n1x d1x n1y d1y n2x d2x n2y d2y : Int} {p1x p1y p2x p2y : Option Addr} {x1 y1 x2 y2 : Rat} {k1x k1y k2x k2y : Nat} [h1x : CF w (.agg #[.int .i64 n1x, .int .i64 d1x, .pointer p1x]) x1 k1x] [h1y : CF w (.agg #[.int .i64 n1y, .int .i64 d1y, .pointer p1y]) y1 k1y] [h2x : CF w (.agg #[.int .i64 n2x, .int .i64 d2x, .pointer p2x]) x2 k2x] [h2y : CF w (.agg #[.int .i64 n2y, .int .i64 d2y, .pointer p2y]) y2 k2y] (b : k1x ≤ 100000 ∧ k1y ≤ 100000 ∧ k2x ≤ 100000 ∧ k2y ≤ 100000) :
    Calls Tryz.prog 148 #[.agg #[.int .i64 n1x, .int .i64 d1x, .pointer p1x, .int .i64 n1y, .int .i64 d1y, .pointer p1y], .agg #[.int .i64 n2x, .int .i64 d2x, .pointer p2x, .int .i64 n2y, .int .i64 d2y, .pointer p2y]] w (fun e w' => e = .returned (.int .i64 (cmpR x1 y1 x2 y2)) ∧ Below w.heap.size w w') := by
  obtain ⟨q1, q2⟩ := isgn_bd (x1 - x2).num
  by_cases hc : isgn (x1 - x2).num = 0
  · have HE : Hid (cmpR x1 y1 x2 y2 = isgn (y1 - y2).num) := if_pos hc
    have HC := Lib.hid hc
    clear hc q1 q2
    go_enter Tryz.func148, Tryz.ntmps148
    go_wp2_with (first
    | (go_at_call 204; (with_reducible refine Calls.cE (rCmpV (by omega) HC) ?_); intros)
    | (go_at_call 204; (with_reducible refine Calls.cE (rCmpC (by omega)) ?_); intros))
    go_ret
    exact E.fin (by rw [HE.out]; rfl)
  · have HE : Hid (cmpR x1 y1 x2 y2 = isgn (x1 - x2).num) := if_neg hc
    obtain ⟨c, hC⟩ : ∃ c, isgn (x1 - x2).num = c := ⟨_, rfl⟩
    rw [hC] at HE hc q1 q2
    have HC := Lib.hid hC
    have q : (c == 0) = false := by rw [beq_eq_false_iff_ne]; exact hc
    clear hC hc
    go_enter Tryz.func148, Tryz.ntmps148
    go_wp2_with (first
    | (go_at_call 204; (with_reducible refine Calls.cE (rCmpV (by omega) HC) ?_); intros)
    | (go_at_call 204; (with_reducible refine Calls.cE (rCmpC (by omega)) ?_); intros))
    go_ret
    exact E.fin (by rw [HE.out]; rfl)

theorem refCompareC {w : World} {g1x g1y g2x g2y : Bool} {a1x aa1x a1y aa1y a2x aa2x a2y aa2y : Option Addr} {l1x c1x ll1x cc1x l1y c1y ll1y cc1y l2x c2x ll2x cc2x l2y c2y ll2y cc2y k1x k1y k2x k2y : Nat} {x1 y1 x2 y2 : Rat} [h1x : CQ w (.agg #[.bool g1x, .slice a1x l1x c1x, .slice aa1x ll1x cc1x]) x1 k1x] [h1y : CQ w (.agg #[.bool g1y, .slice a1y l1y c1y, .slice aa1y ll1y cc1y]) y1 k1y] [h2x : CQ w (.agg #[.bool g2x, .slice a2x l2x c2x, .slice aa2x ll2x cc2x]) x2 k2x] [h2y : CQ w (.agg #[.bool g2y, .slice a2y l2y c2y, .slice aa2y ll2y cc2y]) y2 k2y] (b : k1x ≤ 9000 ∧ k1y ≤ 9000 ∧ k2x ≤ 9000 ∧ k2y ≤ 9000) :
    Calls Tryz.prog 88 #[.agg #[.bool g1x, .slice a1x l1x c1x, .slice aa1x ll1x cc1x, .bool g1y, .slice a1y l1y c1y, .slice aa1y ll1y cc1y], .agg #[.bool g2x, .slice a2x l2x c2x, .slice aa2x ll2x cc2x, .bool g2y, .slice a2y l2y c2y, .slice aa2y ll2y cc2y]] w (fun e w' => e = .returned (.int .i64 (cmpR x1 y1 x2 y2)) ∧ Below w.heap.size w w') := by
  obtain ⟨q1, q2⟩ := isgn_bd (x1 - x2).num
  by_cases hc : isgn (x1 - x2).num = 0
  · have HE : Hid (cmpR x1 y1 x2 y2 = isgn (y1 - y2).num) := if_pos hc
    have HC := Lib.hid hc
    clear hc q1 q2
    go_enter Tryz.func88, Tryz.ntmps88
    go_wp2_with (first
    | (go_at_call 78; (with_reducible refine Calls.cE (numCV (by omega) HC) ?_); intros)
    | (go_at_call 78; (with_reducible refine Calls.cE (numCC (by omega)) ?_); intros))
    go_ret
    exact E.fin (by rw [HE.out]; rfl)
  · have HE : Hid (cmpR x1 y1 x2 y2 = isgn (x1 - x2).num) := if_neg hc
    obtain ⟨c, hC⟩ : ∃ c, isgn (x1 - x2).num = c := ⟨_, rfl⟩
    rw [hC] at HE hc q1 q2
    have HC := Lib.hid hC
    have q : (c == 0) = false := by rw [beq_eq_false_iff_ne]; exact hc
    clear hC hc
    go_enter Tryz.func88, Tryz.ntmps88
    go_wp2_with (first
    | (go_at_call 78; (with_reducible refine Calls.cE (numCV (by omega) HC) ?_); intros)
    | (go_at_call 78; (with_reducible refine Calls.cE (numCC (by omega)) ?_); intros))
    go_ret
    exact E.fin (by rw [HE.out]; rfl)

/-- Whether the third point lies on the segment between the others. -/
def btwR (x1 y1 x2 y2 x3 y3 : Rat) : Bool := decide (orientR x1 y1 x2 y2 x3 y3 = 0) && decide (isgn ((x1 - x3) * (x2 - x3) + (y1 - y3) * (y2 - y3)).num ≤ 0)
theorem orientV {w : World} {v : Int} {n1x d1x n1y d1y n2x d2x n2y d2y n3x d3x n3y d3y : Int} {p1x p1y p2x p2y p3x p3y : Option Addr} {x1 y1 x2 y2 x3 y3 : Rat} {k1x k1y k2x k2y k3x k3y : Nat} [h1x : CF w (.agg #[.int .i64 n1x, .int .i64 d1x, .pointer p1x]) x1 k1x] [h1y : CF w (.agg #[.int .i64 n1y, .int .i64 d1y, .pointer p1y]) y1 k1y] [h2x : CF w (.agg #[.int .i64 n2x, .int .i64 d2x, .pointer p2x]) x2 k2x] [h2y : CF w (.agg #[.int .i64 n2y, .int .i64 d2y, .pointer p2y]) y2 k2y] [h3x : CF w (.agg #[.int .i64 n3x, .int .i64 d3x, .pointer p3x]) x3 k3x] [h3y : CF w (.agg #[.int .i64 n3y, .int .i64 d3y, .pointer p3y]) y3 k3y] (b : k1x ≤ 5000 ∧ k1y ≤ 5000 ∧ k2x ≤ 5000 ∧ k2y ≤ 5000 ∧ k3x ≤ 5000 ∧ k3y ≤ 5000) (hv : Hid (orientR x1 y1 x2 y2 x3 y3 = v)) :
    Calls Tryz.prog 110 #[.agg #[.int .i64 n1x, .int .i64 d1x, .pointer p1x, .int .i64 n1y, .int .i64 d1y, .pointer p1y], .agg #[.int .i64 n2x, .int .i64 d2x, .pointer p2x, .int .i64 n2y, .int .i64 d2y, .pointer p2y], .agg #[.int .i64 n3x, .int .i64 d3x, .pointer p3x, .int .i64 n3y, .int .i64 d3y, .pointer p3y]] w (fun e w' => e = .returned (.int .i64 v) ∧ Below w.heap.size w w') := by
  rw [← hv.out]; exact orientC b
theorem refOrientV {w : World} {v : Int} {g1x g1y g2x g2y g3x g3y : Bool} {a1x aa1x a1y aa1y a2x aa2x a2y aa2y a3x aa3x a3y aa3y : Option Addr} {l1x c1x ll1x cc1x l1y c1y ll1y cc1y l2x c2x ll2x cc2x l2y c2y ll2y cc2y l3x c3x ll3x cc3x l3y c3y ll3y cc3y k1x k1y k2x k2y k3x k3y : Nat} {x1 y1 x2 y2 x3 y3 : Rat} [h1x : CQ w (.agg #[.bool g1x, .slice a1x l1x c1x, .slice aa1x ll1x cc1x]) x1 k1x] [h1y : CQ w (.agg #[.bool g1y, .slice a1y l1y c1y, .slice aa1y ll1y cc1y]) y1 k1y] [h2x : CQ w (.agg #[.bool g2x, .slice a2x l2x c2x, .slice aa2x ll2x cc2x]) x2 k2x] [h2y : CQ w (.agg #[.bool g2y, .slice a2y l2y c2y, .slice aa2y ll2y cc2y]) y2 k2y] [h3x : CQ w (.agg #[.bool g3x, .slice a3x l3x c3x, .slice aa3x ll3x cc3x]) x3 k3x] [h3y : CQ w (.agg #[.bool g3y, .slice a3y l3y c3y, .slice aa3y ll3y cc3y]) y3 k3y] (b : k1x ≤ 1000 ∧ k1y ≤ 1000 ∧ k2x ≤ 1000 ∧ k2y ≤ 1000 ∧ k3x ≤ 1000 ∧ k3y ≤ 1000) (hv : Hid (orientR x1 y1 x2 y2 x3 y3 = v)) :
    Calls Tryz.prog 113 #[.agg #[.bool g1x, .slice a1x l1x c1x, .slice aa1x ll1x cc1x, .bool g1y, .slice a1y l1y c1y, .slice aa1y ll1y cc1y], .agg #[.bool g2x, .slice a2x l2x c2x, .slice aa2x ll2x cc2x, .bool g2y, .slice a2y l2y c2y, .slice aa2y ll2y cc2y], .agg #[.bool g3x, .slice a3x l3x c3x, .slice aa3x ll3x cc3x, .bool g3y, .slice a3y l3y c3y, .slice aa3y ll3y cc3y]] w (fun e w' => e = .returned (.int .i64 v) ∧ Below w.heap.size w w') := by
  rw [← hv.out]; exact refOrientC (by omega)
end Go.Proofs.YtdlnoeegboapkaaGreatDoor

/- The order of rings and the least rotation: plain facts. -/
namespace Go.Proofs.YtdlnoeegboapkaaGreatDoor
open Go.RowKit

def cmpP (p q : Rat × Rat) : Int := cmpR p.1 p.2 q.1 q.2
/-- Lists of points, by their first difference; a beginning comes first. -/
def cmpLs : List (Rat × Rat) → List (Rat × Rat) → Int
  | [], [] => 0
  | [], _ :: _ => -1
  | _ :: _, [] => 1
  | p :: L, q :: M => if cmpP p q = 0 then cmpLs L M else cmpP p q
theorem drop_pg {L : List (Rat × Rat)} {i : Nat} (h : i < L.length) : L.drop i = pg L i :: L.drop (i + 1) := by
  rw [pg_get h, List.drop_eq_getElem_cons h]
theorem cmpLs_step {L M : List (Rat × Rat)} {i : Nat} (h1 : i < L.length) (h2 : i < M.length) (h : cmpP (pg L i) (pg M i) = 0) : cmpLs (L.drop i) (M.drop i) = cmpLs (L.drop (i + 1)) (M.drop (i + 1)) := by
  rw [drop_pg h1, drop_pg h2, cmpLs, if_pos h]
theorem cmpLs_ne {L M : List (Rat × Rat)} {i : Nat} (h1 : i < L.length) (h2 : i < M.length) (h : cmpP (pg L i) (pg M i) ≠ 0) : cmpLs (L.drop i) (M.drop i) = cmpP (pg L i) (pg M i) := by
  rw [drop_pg h1, drop_pg h2, cmpLs, if_neg h]
theorem cmpLs_end {L M : List (Rat × Rat)} {i : Nat} (h : L.length ≤ i ∨ M.length ≤ i) (hi : i ≤ L.length ∧ i ≤ M.length) : cmpLs (L.drop i) (M.drop i) = if L.length < M.length then -1 else if M.length < L.length then 1 else 0 := by
  by_cases h1 : L.length ≤ i
  · rw [List.drop_eq_nil_of_le h1]
    by_cases h2 : M.length ≤ i
    · rw [List.drop_eq_nil_of_le h2, if_neg (by omega), if_neg (by omega)]; rfl
    · rw [drop_pg (by omega), if_pos (by omega)]; rfl
  · have h2 : M.length ≤ i := by omega
    rw [List.drop_eq_nil_of_le h2, drop_pg (by omega), if_neg (by omega), if_pos (by omega)]; rfl
def rot (L : List (Rat × Rat)) (i : Nat) : List (Rat × Rat) := L.drop i ++ L.take i
theorem rot_len (L : List (Rat × Rat)) (i : Nat) : (rot L i).length = L.length := by simp [rot]; omega
theorem rot_pg {L : List (Rat × Rat)} {i : Nat} (h : i < L.length) : rot L i = pg L i :: (L.drop (i + 1) ++ L.take i) := by rw [rot, drop_pg h]; rfl
/-- The best of the first i rotations (and of the ring itself). -/
def bst (L : List (Rat × Rat)) : Nat → List (Rat × Rat)
  | 0 => L
  | i + 1 => if cmpLs (rot L i) (bst L i) < 0 then rot L i else bst L i
theorem bst_len (L : List (Rat × Rat)) (i : Nat) : (bst L i).length = L.length := by
  induction i with
  | zero => rfl
  | succ i ih => rw [bst]; split
                 · exact rot_len _ _
                 · exact ih
def canonL (L : List (Rat × Rat)) : List (Rat × Rat) := bst L L.length
theorem bst_skip {L : List (Rat × Rat)} {i : Nat} (hi : i < L.length) (h : 0 < cmpP (pg L i) (pg (bst L i) 0)) : bst L (i + 1) = bst L i := by
  rw [bst, if_neg]
  rw [rot_pg hi]
  have hb : 0 < (bst L i).length := by rw [bst_len]; omega
  have e : bst L i = pg (bst L i) 0 :: (bst L i).drop 1 := by
    have := drop_pg hb
    simpa using this
  rw [e, cmpLs, if_neg (by omega)]
  exact Int.not_lt.2 (Int.le_of_lt h)
theorem bst_better {L : List (Rat × Rat)} {i : Nat} (h : cmpLs (rot L i) (bst L i) < 0) : bst L (i + 1) = rot L i := by rw [bst, if_pos h]
theorem bst_same {L : List (Rat × Rat)} {i : Nat} (h : ¬ cmpLs (rot L i) (bst L i) < 0) : bst L (i + 1) = bst L i := by rw [bst, if_neg h]
end Go.Proofs.YtdlnoeegboapkaaGreatDoor

/- The area of a ring, its rotations and its reverse, convex rings: plain facts. -/
namespace Go.Proofs.YtdlnoeegboapkaaGreatDoor
open Go.RowKit

def sumN (f : Nat → Rat) : Nat → Rat
  | 0 => 0
  | n + 1 => sumN f n + f n
theorem sumN_congr {f g : Nat → Rat} {n : Nat} (h : ∀ i, i < n → f i = g i) : sumN f n = sumN g n := by
  induction n with
  | zero => rfl
  | succ n ih => rw [sumN, sumN, ih (fun i hi => h i (by omega)), h n (by omega)]
theorem sumN_head (f : Nat → Rat) (n : Nat) : sumN f (n + 1) = f 0 + sumN (fun i => f (i + 1)) n := by
  induction n with
  | zero => simp only [sumN]; grind
  | succ n ih => rw [sumN, ih, sumN]; grind
theorem sumN_rev (f : Nat → Rat) (n : Nat) : sumN (fun i => f (n - 1 - i)) n = sumN f n := by
  induction n generalizing f with
  | zero => rfl
  | succ n ih =>
    rw [sumN_head f n, ← ih (fun i => f (i + 1)), sumN]
    have e : sumN (fun i => f (n + 1 - 1 - i)) n = sumN (fun i => f (n - 1 - i + 1)) n := sumN_congr fun i hi => by
      rw [show n + 1 - 1 - i = n - 1 - i + 1 by omega]
    rw [e, show n + 1 - 1 - n = 0 by omega]; grind
theorem sumN_neg (f : Nat → Rat) (n : Nat) : sumN (fun i => -f i) n = -sumN f n := by
  induction n with
  | zero => simp [sumN]
  | succ n ih => rw [sumN, sumN, ih]; grind
/-- A function of period n: the sum over a period does not depend on where it begins. -/
theorem sumN_per {f : Nat → Rat} {n : Nat} (h : ∀ i, f (i + n) = f i) (k : Nat) : sumN (fun i => f (i + k)) n = sumN f n := by
  induction k with
  | zero => rfl
  | succ k ih =>
    rw [← ih]
    have h1 := sumN_head (fun i => f (i + k)) n
    have h2 : sumN (fun i => f (i + k)) (n + 1) = sumN (fun i => f (i + k)) n + f (n + k) := rfl
    have h3 : f (n + k) = f (0 + k) := by rw [show n + k = 0 + k + n by omega, h]
    have h4 : sumN (fun i => f (i + 1 + k)) n = sumN (fun i => f (i + (k + 1))) n := sumN_congr fun i hi => by rw [show i + 1 + k = i + (k + 1) by omega]
    grind
def crs (p q : Rat × Rat) : Rat := p.1 * q.2 - p.2 * q.1
/-- The vertex i, counted around. -/
def pc (L : List (Rat × Rat)) (i : Nat) : Rat × Rat := pg L (i % L.length)
theorem pc_lt {L : List (Rat × Rat)} {i : Nat} (h : i < L.length) : pc L i = pg L i := by rw [pc, Nat.mod_eq_of_lt h]
theorem pc_per (L : List (Rat × Rat)) (i : Nat) : pc L (i + L.length) = pc L i := by rw [pc, Nat.add_mod_right, pc]
/-- Twice the area of the first q edges. -/
def sumC (L : List (Rat × Rat)) (q : Nat) : Rat := sumN (fun i => crs (pc L i) (pc L (i + 1))) q
theorem sumC_succ {L : List (Rat × Rat)} {q : Nat} (h : q < L.length) : sumC L (q + 1) = sumC L q + crs (pg L q) (pg L ((q + 1) % L.length)) := by
  rw [sumC, sumN, ← sumC, pc_lt h, pc]
def areaL (L : List (Rat × Rat)) : Rat := sumC L L.length / 2
/-! ### Rotations -/
theorem rot_pc {L : List (Rat × Rat)} {k : Nat} (hk : k < L.length) (i : Nat) : pc (rot L k) i = pc L (i + k) := by
  have h0 : 0 < L.length := by omega
  rw [pc, rot_len]
  have hm : i % L.length < L.length := Nat.mod_lt _ h0
  rw [pg_get (by rw [rot_len]; exact hm)]
  unfold rot
  by_cases hc : i % L.length < L.length - k
  · rw [List.getElem_append_left (by rw [List.length_drop]; exact hc), List.getElem_drop]
    have e : (i + k) % L.length = k + i % L.length := by
      rw [Nat.add_mod, Nat.mod_eq_of_lt hk, Nat.add_comm, Nat.mod_eq_of_lt (by omega)]
    rw [pc, e, pg_get]
  · rw [List.getElem_append_right (by rw [List.length_drop]; omega)]
    rw [List.getElem_take]
    have e : (i + k) % L.length = i % L.length - (L.drop k).length := by
      rw [List.length_drop, Nat.add_mod, Nat.mod_eq_of_lt hk]
      rw [show i % L.length + k = i % L.length - (L.length - k) + L.length by omega, Nat.add_mod_right, Nat.mod_eq_of_lt (by omega)]
    rw [pc, e, pg_get]
theorem area_rot {L : List (Rat × Rat)} {k : Nat} (hk : k < L.length) : areaL (rot L k) = areaL L := by
  rw [areaL, areaL, sumC, sumC, rot_len]
  congr 1
  have := sumN_per (f := fun i => crs (pc L i) (pc L (i + 1))) (n := L.length) (fun i => by
    show crs (pc L (i + L.length)) (pc L (i + L.length + 1)) = _
    rw [pc_per, show i + L.length + 1 = i + 1 + L.length by omega, pc_per]) k
  rw [← this]
  exact sumN_congr fun i _ => by
    rw [rot_pc hk, rot_pc hk, show i + 1 + k = i + k + 1 by omega]
theorem bst_rot (L : List (Rat × Rat)) : ∀ i, i ≤ L.length → bst L i = L ∨ ∃ k, k < L.length ∧ bst L i = rot L k := by
  intro i
  induction i with
  | zero => exact fun _ => .inl rfl
  | succ i ih =>
    intro hi
    rw [bst]
    split
    · exact .inr ⟨i, by omega, rfl⟩
    · exact ih (by omega)
theorem area_canon (L : List (Rat × Rat)) : areaL (canonL L) = areaL L := by
  rcases bst_rot L L.length (Nat.le_refl _) with h | ⟨k, hk, h⟩
  · rw [canonL, h]
  · rw [canonL, h, area_rot hk]
/-! ### The reverse -/
def revL : List (Rat × Rat) → List (Rat × Rat)
  | [] => []
  | p :: L => p :: L.reverse
theorem revL_len (L : List (Rat × Rat)) : (revL L).length = L.length := by cases L <;> simp [revL]
theorem revL_revL (L : List (Rat × Rat)) : revL (revL L) = L := by cases L <;> simp [revL]
theorem revL_pc {L : List (Rat × Rat)} {i : Nat} (h : i ≤ L.length) (h0 : 0 < L.length) : pc (revL L) i = pc L (L.length - i) := by
  cases L with
  | nil => simp at h0
  | cons p M =>
    rcases Nat.eq_zero_or_pos i with rfl | hp
    · rw [Nat.sub_zero]
      rw [show (p :: M).length = 0 + (p :: M).length by omega, pc_per, pc, pc]
      simp [revL, pg]
    · rcases Nat.lt_or_ge i (p :: M).length with hlt | hge
      · rw [pc_lt (by rw [revL_len]; exact hlt), pc_lt (by omega), pg_get (by rw [revL_len]; exact hlt), pg_get (by omega)]
        simp only [revL]
        simp only [List.length_cons] at hlt
        obtain ⟨j, rfl⟩ : ∃ j, i = j + 1 := ⟨i - 1, by omega⟩
        rw [List.getElem_cons_succ, List.getElem_reverse]
        have e : (p :: M).length - (j + 1) = (M.length - 1 - j) + 1 := by simp only [List.length_cons]; omega
        simp only [e, List.getElem_cons_succ]
      · have e : i = (p :: M).length := by omega
        rw [e, Nat.sub_self, pc, pc, revL_len, Nat.mod_self, Nat.zero_mod]
        simp [revL, pg]
theorem area_rev (L : List (Rat × Rat)) : areaL (revL L) = -areaL L := by
  rcases Nat.eq_zero_or_pos L.length with h0 | h0
  · have : L = [] := List.eq_nil_of_length_eq_zero h0
    subst this
    simp only [areaL, sumC, sumN, revL, List.length_nil]; decide +kernel
  · have h : sumC (revL L) L.length = -sumC L L.length := by
      rw [sumC, sumC, ← sumN_neg, ← sumN_rev (fun i => -crs (pc L i) (pc L (i + 1)))]
      refine sumN_congr fun i hi => ?_
      show crs (pc (revL L) i) (pc (revL L) (i + 1)) = -crs (pc L (L.length - 1 - i)) (pc L (L.length - 1 - i + 1))
      rw [revL_pc (by omega) h0, revL_pc (by omega) h0, show L.length - (i + 1) = L.length - 1 - i by omega, show L.length - 1 - i + 1 = L.length - i by omega]
      unfold crs; grind
    rw [areaL, areaL, revL_len, h]
    grind
/-! ### Convex rings -/
def det3 (p q r : Rat × Rat) : Rat := (q.1 - p.1) * (r.2 - p.2) - (q.2 - p.2) * (r.1 - p.1)
theorem det3_or (p q r : Rat × Rat) : orientR p.1 p.2 q.1 q.2 r.1 r.2 = isgn (det3 p q r).num := rfl
theorem or_pos {p q r : Rat × Rat} : 0 < orientR p.1 p.2 q.1 q.2 r.1 r.2 ↔ 0 < det3 p q r := by
  rw [det3_or]
  rw [← isg_pos]
  have := isgn_bd (det3 p q r).num
  omega
/-- All other vertices lie on the left side of every edge. -/
def CvxL (L : List (Rat × Rat)) : Prop := ∀ i, i < L.length → ∀ k, k < L.length → k ≠ i → k ≠ (i + 1) % L.length → 0 < det3 (pg L i) (pg L ((i + 1) % L.length)) (pg L k)
theorem cvx_part {L : List (Rat × Rat)} {q : Nat} (hq : q ≤ L.length) : sumC L q = sumN (fun i => det3 (pc L 0) (pc L i) (pc L (i + 1))) q + crs (pc L 0) (pc L q) := by
  induction q with
  | zero => simp [sumC, sumN, crs]; grind
  | succ q ih =>
    rw [sumC, sumN, ← sumC, ih (by omega), sumN]
    unfold crs det3; grind
theorem sumN_nonneg {f : Nat → Rat} {n : Nat} (h : ∀ i, i < n → 0 ≤ f i) : 0 ≤ sumN f n := by
  induction n with
  | zero => simp [sumN]
  | succ n ih => rw [sumN]; have := ih (fun i hi => h i (by omega)); have := h n (by omega); grind
theorem sumN_pos {f : Nat → Rat} {n j : Nat} (h : ∀ i, i < n → 0 ≤ f i) (hj : j < n) (hp : 0 < f j) : 0 < sumN f n := by
  induction n with
  | zero => omega
  | succ n ih =>
    rw [sumN]
    by_cases e : j = n
    · subst e
      have := sumN_nonneg (f := f) (n := j) (fun i hi => h i (by omega))
      grind
    · have := ih (fun i hi => h i (by omega)) (by omega)
      have := h n (by omega)
      grind
theorem cvx_det {L : List (Rat × Rat)} (h : CvxL L) {i : Nat} (hi : i < L.length) (h1 : i ≠ 0) (h2 : i + 1 ≠ L.length) : 0 < det3 (pc L 0) (pc L i) (pc L (i + 1)) := by
  have hm : (i + 1) % L.length = i + 1 := Nat.mod_eq_of_lt (by omega)
  have := h i hi 0 (by omega) (Ne.symm h1) (by rw [hm]; omega)
  rw [hm] at this
  rw [pc_lt (by omega), pc_lt hi, pc_lt (by omega)]
  unfold det3 at this ⊢; grind
theorem cvx_area {L : List (Rat × Rat)} (h : CvxL L) (h3 : 3 ≤ L.length) : 0 < areaL L := by
  have hs := cvx_part (L := L) (Nat.le_refl _)
  have h0 : crs (pc L 0) (pc L L.length) = 0 := by
    rw [show L.length = 0 + L.length by omega, pc_per]
    unfold crs; grind
  have hp : 0 < sumN (fun i => det3 (pc L 0) (pc L i) (pc L (i + 1))) L.length := by
    refine sumN_pos (j := 1) (fun i hi => ?_) (by omega) (cvx_det h (by omega) (by omega) (by omega))
    by_cases e0 : i = 0
    · subst e0
      have : det3 (pc L 0) (pc L 0) (pc L (0 + 1)) = 0 := by unfold det3; grind
      rw [this]; exact Rat.le_refl
    · by_cases e1 : i + 1 = L.length
      · have : det3 (pc L 0) (pc L i) (pc L (i + 1)) = 0 := by
          rw [e1, show L.length = 0 + L.length by omega, pc_per]
          unfold det3; grind
        rw [this]; exact Rat.le_refl
      · exact Rat.le_of_lt (cvx_det h hi e0 e1)
  rw [areaL, hs, h0]
  grind
theorem cvx_turn {L : List (Rat × Rat)} (h : CvxL L) (h3 : 3 ≤ L.length) {i : Nat} (hi : i < L.length) : 0 < det3 (pg L ((i + L.length - 1) % L.length)) (pg L i) (pg L ((i + 1) % L.length)) := by
  by_cases e0 : i = 0
  · subst e0
    have hm : (0 + L.length - 1) % L.length = L.length - 1 := by rw [Nat.zero_add, Nat.mod_eq_of_lt (by omega)]
    have hm1 : (0 + 1) % L.length = 1 := Nat.mod_eq_of_lt (by omega)
    have hm2 : (L.length - 1 + 1) % L.length = 0 := by rw [show L.length - 1 + 1 = L.length by omega, Nat.mod_self]
    have := h (L.length - 1) (by omega) 1 (by omega) (by omega) (by rw [hm2]; omega)
    rw [hm2] at this
    rw [hm, hm1]; exact this
  · have hm : (i + L.length - 1) % L.length = i - 1 := by
      rw [show i + L.length - 1 = i - 1 + L.length by omega, Nat.add_mod_right, Nat.mod_eq_of_lt (by omega)]
    rw [hm]
    have hm2 : (i - 1 + 1) % L.length = i := by rw [show i - 1 + 1 = i by omega, Nat.mod_eq_of_lt hi]
    have := h (i - 1) (by omega) ((i + 1) % L.length) (Nat.mod_lt _ (by omega)) (by
      rcases Nat.lt_or_ge (i + 1) L.length with hl | hg
      · rw [Nat.mod_eq_of_lt hl]; omega
      · have : i + 1 = L.length := by omega
        rw [this, Nat.mod_self]; omega) (by
      rw [hm2]
      rcases Nat.lt_or_ge (i + 1) L.length with hl | hg
      · rw [Nat.mod_eq_of_lt hl]; omega
      · have : i + 1 = L.length := by omega
        rw [this, Nat.mod_self]; omega)
    rw [hm2] at this
    exact this
end Go.Proofs.YtdlnoeegboapkaaGreatDoor

/- The listed variables of the rows of layer 9: the sentinels. -/
namespace Go.Proofs.YtdlnoeegboapkaaGreatDoor
open Go Go.RowKit

theorem Tryz.gI : Tryz.prog.globalNamed "bspregion/api.ErrInvalid" = some 4 := by kernel_rfl
theorem Tryz.gRi : Tryz.prog.globalNamed "bspregion/api.ErrRing" = some 3 := by kernel_rfl
theorem Tryz.gLi : Tryz.prog.globalNamed "bspregion/api.ErrLimit" = some 2 := by kernel_rfl
theorem Tryz.gIt : (Tryz.prog.globals[4]?).map (·.type) = some 36 := by kernel_rfl
theorem Tryz.gRit : (Tryz.prog.globals[3]?).map (·.type) = some 36 := by kernel_rfl
theorem Tryz.gLit : (Tryz.prog.globals[2]?).map (·.type) = some 36 := by kernel_rfl
theorem Tryz.rcellsEs : Tryz.prog.cellsOf 388 = 1 := by kernel_rfl
theorem Tryz.rcellsStr : Tryz.prog.cellsOf 9 = 1 := by kernel_rfl
theorem Tryz.rstar : "*" ++ "errors.errorString" = "*errors.errorString" := by decide
theorem Tryz.rrowEs (u : TypeId) (h : Tryz.prog.typeName? 3 u = some "*errors.errorString") : u = 365 :=
  typeName_ptr_named (nm := "errors.errorString") (by rw [Tryz.rstar]; kernel_rfl) (by kernel_rfl) (by decide) u (by rw [Tryz.rstar]; exact h)
theorem snt_of_var9 {W : World} {n : String} {g : Nat} {a : Addr} (hg : Tryz.prog.globalNamed n = some g) (hv : W.var? Tryz.prog n = some #[.iface 365 (.pointer (some a))]) (hr : ∃ c t, W.heap[a.block]? = some (.cells c t (0, 0))) : Snt W g a W :=
  Snt.mk1 (by simpa using World.var?_cell hg hv 0) hr
/-- The list of the rows of layer 9. -/
def laid9 : List (String × DataW Unit) := [("math/bits.deBruijn32tab", Rows.laid_math_bits_deBruijn32tab), ("math/bits.deBruijn64tab", Rows.laid_math_bits_deBruijn64tab), ("internal/strconv.uint64pow10", Rows.laid_internal_strconv_uint64pow10), ("bspregion/api.ErrInvalid", Rows.laid_bspregion_api_ErrInvalid), ("bspregion/api.ErrRing", Rows.laid_bspregion_api_ErrRing), ("bspregion/api.ErrLimit", Rows.laid_bspregion_api_ErrLimit)]
theorem sents9 {W : World} (hL : laidMetH Tryz.prog laid9 W) : ∃ aI aR aL, Snt W 4 aI W ∧ Snt W 3 aR W ∧ Snt W 2 aL W := by
  rw [MakeChecks.laidMetH_plain _ _ _ (by kernel_rfl)] at hL
  have hT := hL.tail.tail.tail
  obtain ⟨a0, a1, s0, s1, c0, c1, t0, t1, hv0, hv1, _, _, _, _, _, _, hne, hb0, hb1⟩ := laid_sentinels2 hT Tryz.gI Tryz.gIt Tryz.gRi Tryz.gRit Tryz.underlying36 Tryz.rrowEs Tryz.underlying365 Tryz.underlying388 rfl rfl Tryz.underlying9 Tryz.rcellsEs Tryz.rcellsStr
  obtain ⟨b0, b1, s0', s1', c0', c1', t0', t1', hv0', hv1', _, _, _, _, _, _, _, _, hb1'⟩ := laid_sentinels2 hT.tail Tryz.gRi Tryz.gRit Tryz.gLi Tryz.gLit Tryz.underlying36 Tryz.rrowEs Tryz.underlying365 Tryz.underlying388 rfl rfl Tryz.underlying9 Tryz.rcellsEs Tryz.rcellsStr
  exact ⟨a0, a1, b1, snt_of_var9 Tryz.gI hv0 ⟨_, _, hb0⟩, snt_of_var9 Tryz.gRi hv1 ⟨_, _, hb1⟩, snt_of_var9 Tryz.gLi hv1' ⟨_, _, hb1'⟩⟩
end Go.Proofs.YtdlnoeegboapkaaGreatDoor

/- Errors of geo.RingOf; ring.Check; the area. printed by a small program (mkrg5.py). -/
namespace Go.Proofs.YtdlnoeegboapkaaGreatDoor
open Go.RowKit
set_option maxRecDepth 100000
set_option maxHeartbeats 40000000
set_option synthInstance.maxSize 100000
set_option synthInstance.maxHeartbeats 1000000
set_option linter.unusedVariables false
attribute [local go_sem] Oper.semAt_some

/-- An error of a kind is returned, behind another result. -/
def RErr (w : World) (v : Value) (a : Addr) (e : Ending) (w' : World) : Prop :=
  ∃ b s, e = .returned (.tuple #[v, .iface 114 (.pointer (some ⟨b, 0, none⟩))]) ∧ Bx w' b 116 [.iface 365 (.pointer (some a)), .int .i64 0, .int .i64 0, .string s] ∧ Below w.heap.size w w'
theorem Calls.cRErr {P : Program} {f : FuncId} {args : Array Value} {w : World} {v : Value} {a : Addr} {K : Ending → World → Prop} (h : Calls P f args w (RErr w v a))
    (hK : ∀ w' [Kp1 w w'] b s [Bx w' b 116 [.iface 365 (.pointer (some a)), .int .i64 0, .int .i64 0, .string s]], K (.returned (.tuple #[v, .iface 114 (.pointer (some ⟨b, 0, none⟩))])) w') : Calls P f args w K := by
  refine h.mono ?_
  rintro e w' ⟨b, s, rfl, hx, hb⟩
  exact @hK w' ⟨hb⟩ b s hx
theorem RErr.fin {w w' : World} {v : Value} {a : Addr} {b : Nat} {s : ByteArray} [k : Kp w w'] [h : Bx w' b 116 [.iface 365 (.pointer (some a)), .int .i64 0, .int .i64 0, .string s]] : RErr w v a (.returned (.tuple #[v, .iface 114 (.pointer (some ⟨b, 0, none⟩))])) w' := ⟨b, s, rfl, h, k.out⟩
/-- An error of a kind is returned. -/
def OErr (w : World) (a : Addr) (e : Ending) (w' : World) : Prop :=
  ∃ b s, e = .returned (.iface 114 (.pointer (some ⟨b, 0, none⟩))) ∧ Bx w' b 116 [.iface 365 (.pointer (some a)), .int .i64 0, .int .i64 0, .string s] ∧ Below w.heap.size w w'
theorem Calls.cOErr {P : Program} {f : FuncId} {args : Array Value} {w : World} {a : Addr} {K : Ending → World → Prop} (h : Calls P f args w (OErr w a))
    (hK : ∀ w' [Kp1 w w'] b s [Bx w' b 116 [.iface 365 (.pointer (some a)), .int .i64 0, .int .i64 0, .string s]], K (.returned (.iface 114 (.pointer (some ⟨b, 0, none⟩)))) w') : Calls P f args w K := by
  refine h.mono ?_
  rintro e w' ⟨b, s, rfl, hx, hb⟩
  exact @hK w' ⟨hb⟩ b s hx
theorem OErr.fin {w w' : World} {a : Addr} {b : Nat} {s : ByteArray} [k : Kp w w'] [h : Bx w' b 116 [.iface 365 (.pointer (some a)), .int .i64 0, .int .i64 0, .string s]] : OErr w a (.returned (.iface 114 (.pointer (some ⟨b, 0, none⟩)))) w' := ⟨b, s, rfl, h, k.out⟩
theorem ringOfLimit {w w1 : World} {a : Option Addr} {n c : Nat} {aL : Addr} [h0 : Snt w 2 aL w1] (hn : 4096 < n) :
    Calls Tryz.prog 77 #[.slice a n c] w (RErr w (.slice none 0 0) aL) := by
  have i0 := h0.here
  clear h0
  have hn' : 4096 < (n : Int) := by omega
  go_enter Tryz.func77, Tryz.ntmps77
  go_wp2_with fail
  refine nmwp (fun W4 => Kp w W4 ∧ Bx W4 w.heap.size 131 [.slice none 0 0] ∧ Bx W4 (w.heap.size + 1) 36 [.nilIface] ∧ Snt W4 2 aL w) ⟨inferInstance, inferInstance, inferInstance, inferInstance⟩ ?_
  intro W4 ⟨k1, k2, k3, k4⟩
  refine rgn [w.heap.size, w.heap.size + 1] [] fun hHeld => ?_
  refine tk 0 hHeld ?_
  refine tk 1 hHeld ?_
  refine wpAnyT_ready (rs := [2, 4]) (by kernel_rfl) (by simp) ?_
  refine AllT.cons (by simp; rfl) (fun K hK => ?_) (AllT.cons (by simp; rfl) (fun K hK => ?_) AllT.nil)
  go_simp
  refine hd hK ?_
  clear hHeld hK K
  intro hHeld
  refine tk 3 hHeld ?_
  refine st 4 fun K hK => ?_
  go_simp
  refine hd hK ?_
  clear hHeld hK K
  intro hHeld
  refine st 5 fun K hK => ?_
  go_simp
  refine hd hK ?_
  clear hHeld hK K
  intro hHeld
  refine dn ?_
  clear hHeld
  go_wp2
  refine ret_se rfl Tryz.underlying131 rfl Tryz.underlying36 rfl rfl rfl rfl ?_
  exact RErr.fin
  go_simp
  refine hd hK ?_
  clear hHeld hK K
  intro hHeld
  refine st 2 fun K hK => ?_
  go_simp
  refine hd hK ?_
  clear hHeld hK K
  intro hHeld
  refine tk 3 hHeld ?_
  refine st 5 fun K hK => ?_
  go_simp
  refine hd hK ?_
  clear hHeld hK K
  intro hHeld
  refine dn ?_
  clear hHeld
  go_wp2
  refine ret_se rfl Tryz.underlying131 rfl Tryz.underlying36 rfl rfl rfl rfl ?_
  exact RErr.fin
theorem rHalfC {w : World} {n1 d1 : Int} {p1 : Option Addr} {x : Rat} {k1 : Nat} [h1 : CF w (.agg #[.int .i64 n1, .int .i64 d1, .pointer p1]) x k1] (b : k1 ≤ 250000) :
    Calls Tryz.prog 154 #[.agg #[.int .i64 n1, .int .i64 d1, .pointer p1]] w (CFRet w (x / 2) (k1 + 4)) := by
  have ih : ∀ W, CF W (.agg #[.int .i64 1, .int .i64 1, .pointer none]) (mkRat 1 2) 2 := fun W => CF.small (by decide +kernel) (by decide +kernel) (by omega) (by omega) (by omega) (by omega)
  have ix := ih w
  go_enter Tryz.func154, Tryz.ntmps154
  go_wp2_with (first
    | (go_at_call 213; (with_reducible refine Calls.cF (rMulC (by omega)) ?_); intros))
  refine ret_bx rfl Tryz.underlying147 rfl (by kernel_rfl) rfl rfl rfl ?_
  exact CFRet.fin (by rw [show mkRat 1 2 = (2 : Rat)⁻¹ by decide +kernel, Rat.div_def]) (by omega)
theorem geoAreaC {w w0 : World} {a : Option Addr} {n c : Nat} {V : List FV} {L : List (Rat × Rat)} {k : Nat} [hs : Sl w (.slice a n c) V.length (rowF V) w0] [hp : PsF w V L k] (b : k ≤ 5000) (hV : V.length ≤ 10) :
    Calls Tryz.prog 91 #[.slice a n c] w (CFRet w (areaL L) (40 * k + 120)) := by
  obtain rfl := hs.len
  have hlen := Lib.hid hp.len
  go_enter Tryz.func91, Tryz.ntmps91
  go_wp2_with fail
  go_loopw [8] (fun i wr => ∃ (q kq : Nat) (ns ds : Int) (ps : Option Addr), i = .int .i64 (q : Int) ∧ q ≤ V.length ∧ Bx wr w.heap.size 147 [.int .i64 0, .int .i64 0, .pointer none] ∧ Bx wr (w.heap.size + 1) 147 [.int .i64 ns, .int .i64 ds, .pointer ps] ∧ CF wr (.agg #[.int .i64 ns, .int .i64 ds, .pointer ps]) (sumC L q) kq ∧ Hid (kq ≤ 2 + q * (4 * k + 10)) ∧ Kp w wr) (fun i _ => V.length - (intOf i).toNat)
  case atStart => exact ⟨0, 2, 0, 0, none, rfl, by omega, inferInstance, inferInstance, CF.zero (Nat.le_refl _), Lib.hid (by omega), inferInstance⟩
  case round =>
    obtain ⟨q, kq, ns, ds, ps, rfl, hq, i1, i2, i3, hkq, i4⟩ := hrel
    have kw := Kp1.mk i4.out
    by_cases hlt : q < V.length
    · obtain ⟨g, rfl, hA⟩ := hs.form (by omega)
      have hlt' : (q : Int) < V.length := by omega
      have lq : LtN q V.length := ⟨hlt⟩
      have ew : IntKind.i64.wrap ((q : Int) + 1) = (q : Int) + 1 := wr_in (by omega) (by omega)
      obtain ⟨m, hm0⟩ : ∃ m, (q + 1) % V.length = m := ⟨_, rfl⟩
      have hm : m < V.length := by rw [← hm0]; exact Nat.mod_lt _ (by omega)
      have lm : LtN m V.length := ⟨hm⟩
      have hm' : (m : Int) < V.length := by omega
      have er : ((q : Int) + 1).tmod (V.length : Int) = (m : Int) := by
        rw [← hm0, show (q : Int) + 1 = ((q + 1 : Nat) : Int) by omega]; exact (Int.ofNat_tmod _ _).symm
      have HM := Lib.hid hm0
      clear hm0
      have hz : ¬ ((V.length : Int) = 0) := by omega
      have hz2 : ¬ (V.length = 0) := by omega
      have hkq2 : kq ≤ 2 + q * (4 * k + 10) := hkq.out
      have hkq3 : q * (4 * k + 10) ≤ 10 * (4 * k + 10) := Nat.mul_le_mul_right _ (by omega)
      have HK : kq ≤ 2 + 10 * (4 * k + 10) := by omega
      clear hkq2 hkq3
      go_wp2_with fail
      refine rgn [] [12] fun hHeld => ?_
      refine tk 0 hHeld ?_
      refine tk 1 hHeld ?_
      refine tk 2 hHeld ?_
      refine tk 3 hHeld ?_
      refine tk 4 hHeld ?_
      refine tk 5 hHeld ?_
      refine tk 6 hHeld ?_
      refine tk 7 hHeld ?_
      refine tk 8 hHeld ?_
      refine tk 9 hHeld ?_
      refine st 10 fun K hK => ?_
      go_simp
      (with_reducible refine Calls.cF (ptCrossC (by omega)) ?_); intros
      refine hd hK ?_
      clear hHeld hK K
      intro hHeld
      refine st 11 fun K hK => ?_
      go_simp
      (with_reducible refine Calls.cF (rAddC (by omega)) ?_); intros
      refine hd hK ?_
      clear hHeld hK K
      intro hHeld
      refine st 12 fun K hK => ?_
      go_simp
      refine hdT hK ?_
      clear hK K
      refine dn ?_
      clear hHeld
      go_wp2
      go_roundw
      case rel => exact ⟨q + 1, kq + (k + k + k + k + 7) + 3, _, _, _, by go_num, by omega, inferInstance, inferInstance, CF.cast inferInstance (by rw [sumC_succ (by have := hlen.out; omega), ← hlen.out, HM.out]; rfl) (Nat.le_refl _), Lib.hid (by have h1 := hkq.out; have h2 := Nat.succ_mul q (4 * k + 10); rw [Nat.succ_eq_add_one] at h2; rw [h2]; generalize q * (4 * k + 10) = X at *; omega), inferInstance⟩
      case measure => simp [intOf]; omega
    · obtain rfl : q = V.length := by omega
      have hkq2 : kq ≤ 2 + V.length * (4 * k + 10) := hkq.out
      have hkq3 : V.length * (4 * k + 10) ≤ 10 * (4 * k + 10) := Nat.mul_le_mul_right _ hV
      go_wp2_with (first
        | (go_at_call 154; (with_reducible refine Calls.cF (rHalfC (by omega)) ?_); intros))
      refine ret_bx rfl Tryz.underlying147 rfl (by kernel_rfl) rfl rfl rfl ?_
      exact CFRet.fin (by rw [areaL, ← hlen.out]) (by omega)
end Go.Proofs.YtdlnoeegboapkaaGreatDoor
