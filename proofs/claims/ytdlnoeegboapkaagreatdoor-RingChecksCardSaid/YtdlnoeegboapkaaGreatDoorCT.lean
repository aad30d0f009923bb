/-
  Texts of this claim, joined: Rg3e, Rg12.
-/
import Derived.Test.YtdlnoeegboapkaaGreatDoorCO
import Derived.Test.YtdlnoeegboapkaaGreatDoorCS
/- A range over the edges whose body writes boxes that were made ahead of it. printed by a small program (mkrg3e.py). -/
namespace Go.Proofs.YtdlnoeegboapkaaGreatDoor
open Go.RowKit
set_option maxRecDepth 100000
set_option maxHeartbeats 40000000
set_option synthInstance.maxSize 100000
set_option synthInstance.maxHeartbeats 1000000
set_option linter.unusedVariables false
attribute [local go_sem] Oper.semAt_some

/-- The ring's box and row are kept. -/
structure K2 (Br g c : Nat) (V : List FV) (wz : World) (A B : World) : Prop where
  size : A.heap.size ≤ B.heap.size
  bx : Bx A Br 131 [.slice (some ⟨g, 0, none⟩) V.length c] → Bx B Br 131 [.slice (some ⟨g, 0, none⟩) V.length c]
  at' : At A g (rowF V) wz → At B g (rowF V) wz
theorem K2.refl {Br g c : Nat} {V : List FV} {wz A : World} : K2 Br g c V wz A A := ⟨Nat.le_refl _, id, id⟩
theorem K2.trans {Br g c : Nat} {V : List FV} {wz A B C : World} (h : K2 Br g c V wz A B) (k : K2 Br g c V wz B C) : K2 Br g c V wz A C :=
  ⟨Nat.le_trans h.size k.size, fun x => k.bx (h.bx x), fun x => k.at' (h.at' x)⟩
theorem K2.of {Br g c : Nat} {V : List FV} {wz A B : World} (h : Kp A B) : K2 Br g c V wz A B := by
  have k : Kp1 A B := ⟨h.out⟩
  exact ⟨h.out.size, fun x => inferInstance, fun x => inferInstance⟩
theorem K2.put {Br g c : Nat} {V : List FV} {wz w : World} (W : World) (l : Nat) (o o' : Obj) (hl : w.heap.size ≤ l) (h : W.heap[l]? = some o) (h2 : o.isCells = false) (_ : o.isWalk = false) : K2 Br g c V wz W (W.putObj l o') := by
  refine ⟨by simp [World.putObj], fun x => ⟨?_⟩, fun x => ⟨fun j u hu => ?_, x.lt, by simpa [World.putObj] using x.ltW⟩⟩
  · have hne : l ≠ Br := fun e => by subst e; rw [x.out] at h; cases h; cases h2
    simp only [World.putObj, Array.getElem?_setIfInBounds]
    rw [if_neg hne]; exact x.out
  · have h3 := x.out j u hu
    have hne : l ≠ g := fun e => by
      subst e
      simp only [World.cell?, h] at h3
      cases o <;> first | exact Bool.noConfusion h2 | (simp at h3; done)
    simp only [World.cell?, World.putObj, Array.getElem?_setIfInBounds] at h3 ⊢
    rw [if_neg hne]; exact h3
theorem edges2_in (n : Nat) (hn : 1 ≤ n) (l Br g c : Nat) (V : List FV) (hV : V.length ≤ 1000000) (wz : World) (J Jx : List (Fin V.length) → World → Prop) (W : World) (hJ : AbidesFrom W.heap.size J)
    (hY : ∀ pre x W1, J pre W1 → pre.length < V.length → YieldAt Fence.wide (n - 1) Tryz.prog l (encE V x) W1 fun e W' =>
      (e = .returned (.bool true) ∧ J (pre ++ [x]) W' ∧ K2 Br g c V wz W1 W') ∨ (e = .returned (.bool false) ∧ Jx (pre ++ [x]) W'))
    [hB : Bx W Br 131 [.slice (some ⟨g, 0, none⟩) V.length c]] [hA : At W g (rowF V) wz] (h0 : J [] W) :
    CallsIn Fence.wide n Tryz.prog 202 #[.func (.yield l) #[] #[], .pointer (some ⟨Br, 0, none⟩)] W fun e W' => (∃ v, e = .returned v) ∧
      ((∃ ys, ys = List.finRange V.length ∧ J ys W') ∨ (∃ pre, pre <+: List.finRange V.length ∧ Jx pre W')) := by
  have hmx : Tryz.prog.follows .mixedOrders = true := by kernel_rfl
  refine callsIn_of_wp Tryz.func202 rfl trivial ?_ rfl
  simp only [Tryz.ntmps202, List.size_toArray, List.length_cons, List.length_nil, Nat.reduceAdd, Nat.reduceSub, Array.replicate_succ, Array.replicate_zero, List.push_toArray, List.append_toArray, List.nil_append, List.cons_append]
  gi_wp2
  gi_loopw [7] (fun i wr => ∃ q : Nat, q ≤ V.length ∧ i = .int .i64 (q : Int) ∧ J ((List.finRange V.length).take q) wr ∧ K2 Br g c V wz W wr) (fun i _ => V.length - (intOf i).toNat)
  case atStart => exact ⟨0, Nat.zero_le _, rfl, by simpa using h0, K2.refl⟩
  case round =>
    obtain ⟨q, hq, rfl, hJs, hnx⟩ := hrel
    by_cases hlt : q < V.length
    · have hlt' : (q : Int) < V.length := by omega
      have i1 := hnx.bx hB
      have i2 := hnx.at' hA
      have ew : IntKind.i64.wrap ((q : Int) + 1) = (q : Int) + 1 := wr_in (by omega) (by omega)
      obtain ⟨m, hm0⟩ : ∃ m, (q + 1) % V.length = m := ⟨_, rfl⟩
      have hm : m < V.length := by rw [← hm0]; exact Nat.mod_lt _ (by omega)
      have hm' : (m : Int) < V.length := by omega
      have er : ((q : Int) + 1).tmod (V.length : Int) = (m : Int) := by
        rw [← hm0, show (q : Int) + 1 = ((q + 1 : Nat) : Int) by omega]; exact (Int.ofNat_tmod _ _).symm
      have HM := Lib.hid hm0
      clear hm0
      have hz : ¬ ((V.length : Int) = 0) := by omega
      have hz2 : ¬ (V.length = 0) := by omega
      have hz3 : V ≠ [] := fun e => by rw [e] at hlt; simp at hlt
      gi_wp2
      refine nmreg (fun W4 => Kp wr W4 ∧ Bx W4 wr.heap.size 152 (fv V q).l ∧ Bx W4 Br 131 [.slice (some ⟨g, 0, none⟩) V.length c] ∧ At W4 g (rowF V) wz) ⟨inferInstance, Bx.re rfl, inferInstance, inferInstance⟩ ?_
      intro W4 ⟨k1, k2, k3, k4⟩
      have hJ4 := hJ _ _ W4.drew none hJs (below_gb (inferInstance : Kp wr W4.drew).out) (fun r e => by cases e)
      obtain ⟨fn, tmps, assign, body, hy, hR⟩ := hY _ ⟨q, hlt⟩ _ hJ4 (by simp; omega)
      have hR' := hR.mono (R' := fun e W' => ∃ b : Bool, e = .returned (.bool b) ∧ (b = true → J ((List.finRange V.length).take (q + 1)) W' ∧ K2 Br g c V wz W4.drew W') ∧ (b = false → Jx ((List.finRange V.length).take (q + 1)) W')) (by
        rintro e W' (⟨h1, h2, h3⟩ | ⟨h1, h2⟩)
        · exact ⟨true, h1, fun _ => ⟨(by rw [upto_succ hlt]; exact h2), h3⟩, fun h => (by cases h)⟩
        · exact ⟨false, h1, fun h => (by cases h), fun _ => (by rw [upto_succ hlt]; exact h2)⟩)
      clear hR
      dsimp only [encE, edL] at hy
      rw [HM.out] at hy
      simp only [FV.l] at k2
      clear hY hJ
      gi_region_with_o (refine hR'.mono ?_; rintro e W5 ⟨b, rfl, hb1, hb2⟩)
      all_goals
        cases b with
        | true =>
          obtain ⟨hJ5, hk5⟩ := hb1 rfl
          have hk6 : K2 Br g c V wz wr W5 := (K2.of (inferInstance : Kp wr W4.drew)).trans hk5
          gi_wp2
          go_roundw
          case rel => exact ⟨q + 1, by omega, by go_num, hJ5, hnx.trans hk6⟩
          case measure => simp [intOf]; omega
        | false =>
          have hx5 := hb2 rfl
          gi_wp2
          refine bodyPost_ret (results_none rfl _ _ _) rfl ?_
          exact ⟨⟨_, rfl⟩, .inr ⟨_, List.take_prefix _ _, hx5⟩⟩
    · obtain rfl : q = V.length := by omega
      gi_wp2
      go_end0
      exact ⟨⟨_, rfl⟩, .inl ⟨_, rfl, by rw [List.take_of_length_le (by simp)] at hJs; exact hJs⟩⟩
theorem edges_stops2 (n : Nat) (hn : 1 ≤ n) (Br g c : Nat) (V : List FV) (hV : V.length ≤ 1000000) (w wz : World) [hB : Bx w Br 131 [.slice (some ⟨g, 0, none⟩) V.length c]] [hA : At w g (rowF V) wz] :
    SeqStopsK Fence.wide n Tryz.prog 202 #[.pointer (some ⟨Br, 0, none⟩)] (encE V) (K2 Br g c V wz) (fun ys => ys = List.finRange V.length) (fun pre => pre <+: List.finRange V.length) V.length w := fun l J Jx W hW hJ _ hY h0 => by
  have kW : Kp1 w W := ⟨hW⟩
  exact edges2_in n hn l Br g c V hV wz J Jx W hJ hY h0
theorem range_edges2 {n : Nat} {Q : Exit → Act → World → Prop} {w : World} (wz : World) {go_ : Operand} {ps : Array Tmp} {assign body : Code} {Ts : Array Value} {Br g c : Nat} {V : List FV} (hn : 3 ≤ n) (hg : Act.eval { tmps := Ts, defers := [] } go_ = .func (.func 202) #[] #[.pointer (some ⟨Br, 0, none⟩)]) (hV : V.length ≤ 1000000)
    [hB : Bx w Br 131 [.slice (some ⟨g, 0, none⟩) V.length c]] [hA : At w g (rowF V) wz] (hps : ps.size = 2) (upd : Array Value → Fin V.length → Nat → Array Value)
    (I : List (Fin V.length) → World → Prop) (Ix : Code → List (Fin V.length) → World → Prop) (hI : OwnFrom w.heap.size I) (hIx : ∀ c, OwnFrom w.heap.size (Ix c)) (h0 : I [] w)
    (hassign : ∀ (l : Nat) (pre : List (Fin V.length)) (x : Fin V.length) (W : World) (K : Act → World → Prop), I pre W → (∀ W' b, W.heap.size = b → Kp W W' → Bx W' b 238 (edL V x.val) → K { tmps := upd Ts x b, defers := [] } W') →
      assign.wpIn (Fence.wide.inRound l) (n - 1 - 1) Tryz.prog (Exit.then K (fun _ _ _ => False)) { tmps := (ps.zip (encE V x)).foldl (fun t (p, v) => t.setIfInBounds p v) Ts, defers := [] } W)
    (hIb : ∀ pre W W', I pre W → Kp W W' → I pre W') (hIs : ∀ pre W, I pre W → w.heap.size ≤ W.heap.size)
    (hbody : ∀ (l : Nat) (pre : List (Fin V.length)) (x : Fin V.length) (b : Nat) (W : World), I pre W → w.heap.size ≤ b → Bx W b 238 (edL V x.val) → pre.length < V.length → body.wpIn (Fence.wide.inRound l) (n - 1 - 1) Tryz.prog (ownPostG w.heap.size (K2 Br g c V wz) I Ix (pre ++ [x]) W) { tmps := upd Ts x b, defers := [] } W)
    (hdone : ∀ (D : Nat) (W : World), w.heap.size ≤ D → I (List.finRange V.length) W → W.heap[D]? = some (.deferred (some [])) → Q .normal { tmps := Ts, defers := [{ target := .collected D, args := #[] }] } W)
    (hstop : ∀ (D : Nat) (c : Code) (pre : List (Fin V.length)) (W : World), w.heap.size ≤ D → pre <+: List.finRange V.length → Ix c pre W → W.heap[D]? = some (.deferred (some [])) → c.wpIn Fence.wide n Tryz.prog Q { tmps := Ts, defers := [{ target := .collected D, args := #[] }] } W) :
    (Code.rangeFunc go_ ps assign body).wp Tryz.prog Q { tmps := Ts, defers := [] } w := by
  refine (wpIn_wide (n := n)).1 ?_
  refine wpIn_rangeFunc_ownH rfl (by omega) hg trivial (enters_of Tryz.func202 (by kernel_rfl) rfl) (edges_stops2 (n - 1) (by omega) Br g c V hV w wz) K2.trans (fun W l o o' => K2.put W l o o') (Below.refl _ _) (fun _ => by rw [hps]; rfl)
    I Ix hI hIx h0 (fun x a' W => ∃ b, w.heap.size ≤ b ∧ Bx W b 238 (edL V x.val) ∧ a' = { tmps := upd Ts x b, defers := [] }) ?_ ?_ ?_ ?_ ?_
  · intro x a' s A B row ⟨b, h1, h2, h3⟩ hgr hr
    refine ⟨b, h1, ⟨?_⟩, h3⟩
    rw [hgr.block b h2.lt (fun e => ?_)]
    · exact h2.out
    · obtain ⟨_, o, ho, hc⟩ := hr b e.symm
      rw [h2.out] at ho
      cases ho
      cases hc
  · intro l pre x W K hi hK
    refine hassign l pre x W K hi (fun W' b hb hk hx => ?_)
    have hs := hIs _ _ hi
    exact hK _ _ ((KeepsOthers.of_grownBy (row := none) (below_gb hk.out) (fun j o e => by cases e)).from _) (K2.of hk) (hIb _ _ _ hi hk) ⟨b, by omega, hx, rfl⟩
  · rintro l pre x a' W _ _ hi ⟨b, h1, h2, rfl⟩ hlt
    exact hbody l pre x b W hi h1 h2 hlt
  · rintro D xs W hD rfl hi hK
    exact hdone D W hD hi hK
  · exact hstop
end Go.Proofs.YtdlnoeegboapkaaGreatDoor

/- What keeps where only blocks without cells turn; append inside a fenced walk; the edges of a ring as segments. printed by a small program (mkrg12.py). -/
namespace Go.Proofs.YtdlnoeegboapkaaGreatDoor
open Go.RowKit
set_option maxRecDepth 100000
set_option maxHeartbeats 40000000
set_option synthInstance.maxSize 100000
set_option synthInstance.maxHeartbeats 1000000
set_option linter.unusedVariables false
attribute [local go_sem] Oper.semAt_some

/-- From W to W2 the heap grew, and of what was there only blocks without cells turned. -/
class Nc1 (W : outParam World) (W2 : World) : Prop where
  size : W.heap.size ≤ W2.heap.size
  cells : ∀ {b : Nat} {l : Array Value} {t : TypeId} {z : Nat × Nat}, W.heap[b]? = some (.cells l t z) → W2.heap[b]? = some (.cells l t z)
section
variable {W W2 w0 w : World}
theorem Nc1.of {row : Option Nat} (h : W.grownBy W2 row) (hr : ∀ r, row = some r → ∃ o : Obj, W.heap[r]? = some o ∧ o.isCells = false) : Nc1 W W2 :=
  ⟨h.size, fun {b l t z} hb => by
    rw [h.block b (Array.getElem?_eq_some_iff.1 hb).1 (fun e => ?_)]
    · exact hb
    · obtain ⟨o, ho, hc⟩ := hr b e.symm
      rw [hb] at ho
      cases ho
      cases hc⟩
theorem Nc1.cell (k : Nc1 W W2) {a : Addr} {v : Value} (h : W.cell? a = some v) : W2.cell? a = some v := by
  unfold World.cell? at h ⊢
  match hb : W.heap[a.block]? with
  | none => rw [hb] at h; simp at h
  | some o =>
    rw [hb] at h
    cases o with
    | cells l t z => rw [k.cells hb]; exact h
    | _ => simp at h
theorem Rd.nc {v : Value} {l : List Nat} (h : Rd W v l) (k : Nc1 W W2) : Rd W2 v l := by
  obtain ⟨a, cap, rfl, h1, h2, h3, h4⟩ := h
  refine ⟨a, cap, rfl, h1, h2, h3, fun h0 => ?_⟩
  obtain ⟨b, off, rfl, hcell⟩ := h4 h0
  exact ⟨b, off, rfl, fun j hj => k.cell (hcell j hj)⟩
theorem Pres.nc (k : Nc1 W W2) : Pres W W2 := ⟨fun h => ⟨h.1.nc k, h.2⟩, fun h => by obtain ⟨l, h1, h2⟩ := h; exact ⟨l, h1.nc k, h2⟩, fun {b l} y => k.cells y⟩
instance (priority := low) CF.nc {v : Value} {q : Rat} {k : Nat} [b : Nc1 W W2] [h : CF W v q k] : CF W2 v q k := ⟨h.out.map (Pres.nc b)⟩
instance (priority := low) Bx.nc {b : Nat} {t : TypeId} {l : List Value} [k : Nc1 W W2] [h : Bx W b t l] : Bx W2 b t l := ⟨k.cells h.out⟩
theorem Rn.nc {v : Value} {e : TypeId} {sz n base : Nat} {xs : List Value} (h : Rn W v e sz n xs base w0) (k : Nc1 W W2) : Rn W2 v e sz n xs base w0 :=
  h.keep k.size (fun g hg => by
    obtain ⟨t, l, h1, _⟩ := (h.nd g hg).out
    rw [h1]; exact k.cells h1)
theorem FsG.nc {V : List GV} {L : List FG} {k : Nat} (h : FsG W V L k) [b : Nc1 W W2] : FsG W2 V L k := ⟨h.len, fun i hi => by have := h.x i hi; infer_instance, fun i hi => by have := h.y i hi; infer_instance, fun i hi => by have := h.z i hi; infer_instance, fun i hi => by have := h.u i hi; infer_instance, fun i hi => by have := h.v i hi; infer_instance⟩
instance FsG.dp {V : List GV} {L : List FG} {k : Nat} {D : Nat} [b : Dp1 W W2 D] [h : FsG W V L k] : FsG W2 V L k := ⟨h.len, fun i hi => by have := h.x i hi; infer_instance, fun i hi => by have := h.y i hi; infer_instance, fun i hi => by have := h.z i hi; infer_instance, fun i hi => by have := h.u i hi; infer_instance, fun i hi => by have := h.v i hi; infer_instance⟩
end
/-- Blocks without cells are kept. -/
class Keo (w W : World) : Prop where out : KeepsOthers w W
section
variable {w W W2 : World}
instance Keo.rf : Keo w w := ⟨KeepsOthers.refl w⟩
instance Keo.al {o : Obj} [h : Keo w W] : Keo w (W.alloc o) := ⟨h.out.trans (KeepsOthers.alloc W o)⟩
instance Keo.dr [h : Keo w W] : Keo w W.drew := ⟨h.out.trans (KeepsOthers.drew W)⟩
instance Keo.st {a : Addr} {v : Value} [h : Keo w W] : Keo w (W.setCell a v) := ⟨h.out.trans (KeepsOthers.setCell W a v)⟩
instance (priority := low) Keo.kp [k : Kp1 W W2] [h : Keo w W] : Keo w W2 := ⟨h.out.trans (KeepsOthers.of_grownBy (row := none) (below_gb k.out) (fun j o e => by cases e))⟩
instance (priority := low) Keo.apn [k : Apn W W2] [h : Keo w W] : Keo w W2 := ⟨h.out.trans (by
  obtain ⟨row, h1, h2⟩ := k.out
  refine KeepsOthers.of_grownBy h1 (fun j o e ho => ?_)
  obtain ⟨t, l, h3, _⟩ := (h2 j e).out
  rw [h3] at ho
  cases ho
  rfl)⟩
end
theorem app_rnI {F : Fence} {nn : Nat} {W w0 : World} {ops : Array Oper} {rest : List Oper} {o : Oper} {a : Act} {Q : Exit → Act → World → Prop} (hg : o.guard = none) (s x : Operand) (t : TypeId)
    (hop : o.op = .call { callee := .builtin .append, args := #[s, x], argTypes := #[t, t] }) {e : TypeId} (ht : Tryz.prog.underlying t = some (.slice e)) {z : Value} {sz bt : Nat}
    (hi : (Tryz.prog.info? e).map (fun i => (i.zero, i.size, i.bytes)) = some (some z, sz, bt)) (hzs : z.cells.size = sz) (hsz : 0 < sz) (hbt : bt ≤ 1000) (hz0 : ∀ u ∈ z.cells.toList, isDigit32 u = false) (he : BoxT e) {v : Value} {n : Nat} {xs : List Value} {base : Nat} (hs : a.eval s = v) [hr : Rn W v e sz n xs base w0]
    (hnx : ∀ u ∈ xs, isDigit32 u = false) {ad : Addr} {m c : Nat} {l : List Value} (hx : a.eval x = .slice (some ad) m c) (hb : ∀ j u, l[j]? = some u → W.cell? (ad.add j) = some u) (hl : l.length = m * sz) (h1 : ∀ u ∈ l, u.oneCell' = true) (hnl : ∀ u ∈ l, isDigit32 u = false) (hm : 0 < m) (hn : n + m ≤ 1000000)
    (hK : ∀ g c W' [Ap1 W W' base w0] [Apn W W'] [Rn W' (.slice (some ⟨g, 0, none⟩) (n + m) c) e sz (n + m) (xs ++ l) base W'], wpListIn F nn Tryz.prog ops Q rest (a.put o.dst (.slice (some ⟨g, 0, none⟩) (n + m) c)) W') :
    wpListIn F nn Tryz.prog ops Q (o :: rest) a W := by
  obtain ⟨i0, hi0⟩ : ∃ i0, Tryz.prog.info? e = some i0 := by
    cases h : Tryz.prog.info? e with
    | none => rw [h] at hi; cases hi
    | some i0 => exact ⟨i0, rfl⟩
  rw [hi0] at hi
  simp only [Option.map_some, Option.some.injEq, Prod.mk.injEq] at hi
  obtain ⟨hz, hsz', hbt'⟩ := hi
  have hby : (n + m) * bt ≤ 140737488355328 := by
    have : (n + m) * bt ≤ 1000000 * 1000 := Nat.mul_le_mul hn hbt
    omega
  have hmx : n + m ≤ maxLen := by unfold maxLen; omega
  refine wpListIn_plain hg fun K hKK => ?_
  obtain ⟨v', w', hrun, h2, h3, h4⟩ := run_append_own (P := Tryz.prog) W base t o.type e i0 z sz bt ht hi0 hz hsz' hbt' hzs hsz v n xs hr.rw'.out ad m c l hl hb h1 hmx hby hr.rw'.hb
  have hsoft := append_nd (P := Tryz.prog) W t o.type e i0 z ht hi0 hz he (base := base) (by rw [hsz']; exact hr.rw'.out) hr.nd hnx ad m c l (by rw [hsz']; exact hl) hb h1 hnl hz0 hmx (by rw [hbt']; exact hby) hrun
  have hne : v' ≠ .slice none 0 0 := fun e => by have := (h4.1 e).2; omega
  rcases h2.2 with ⟨e', _⟩ | ⟨g, cap, cur, e', _⟩
  · exact absurd e' hne
  · subst e'
    unfold Oper.wpIn
    refine ⟨by simp [Oper.about, hop, resolve, Target.leads, Sem.run_pure], ?_⟩
    rw [Oper.semAt_plain F _ _ (by rw [hop]; intro c hc'; cases hc')]
    simp [execOp, hop, resolve, invoke, builtin, hs, hx, hrun, Result.andThen]
    have i1 : Ap1 W w' base w0 := ⟨⟨_, h3, fun k hk => ⟨(hr.rw'.out.lt k hk).1, hr.rw'.lt k hk⟩⟩⟩
    have i2 : Apn W w' := ⟨⟨_, h3, hr.nd⟩⟩
    have i3 : Rn w' (.slice (some ⟨g, 0, none⟩) (n + m) cap) e sz (n + m) (xs ++ l) base w' := ⟨Rw.mk1 h2 (Nat.le_trans hr.rw'.hb h3.size), hsoft⟩
    exact hKK _ _ (@hK g cap w' i1 i2 i3)
theorem app_rnI1 {F : Fence} {nn : Nat} {W w0 : World} {ops : Array Oper} {rest : List Oper} {o : Oper} {a : Act} {Q : Exit → Act → World → Prop} (hg : o.guard = none) (s x : Operand) (t : TypeId)
    (hop : o.op = .call { callee := .builtin .append, args := #[s, x], argTypes := #[t, t] }) {e : TypeId} (ht : Tryz.prog.underlying t = some (.slice e)) {z : Value} {sz bt : Nat}
    (hi : (Tryz.prog.info? e).map (fun i => (i.zero, i.size, i.bytes)) = some (some z, sz, bt)) (hzs : z.cells.size = sz) (hsz : 0 < sz) (hbt : bt ≤ 1000) (hz0 : ∀ u ∈ z.cells.toList, isDigit32 u = false) (he : BoxT e) {v : Value} {n : Nat} {xs : List Value} {base : Nat} (hs : a.eval s = v) [hr : Rn W v e sz n xs base w0]
    (hnx : ∀ u ∈ xs, isDigit32 u = false) {q : Nat} {ety : TypeId} {l : List Value} (hx : a.eval x = .slice (some ⟨q, 0, none⟩) 1 1) [hb : Bx W q ety l] (hl : l.length = sz) (h1 : ∀ u ∈ l, u.oneCell' = true) (hnl : ∀ u ∈ l, isDigit32 u = false) (hn : n + 1 ≤ 1000000)
    (hK : ∀ g c W' [Ap1 W W' base w0] [Apn W W'] [Rn W' (.slice (some ⟨g, 0, none⟩) (n + 1) c) e sz (n + 1) (xs ++ l) base W'], wpListIn F nn Tryz.prog ops Q rest (a.put o.dst (.slice (some ⟨g, 0, none⟩) (n + 1) c)) W') :
    wpListIn F nn Tryz.prog ops Q (o :: rest) a W :=
  app_rnI hg s x t hop ht hi hzs hsz hbt hz0 he hs hnx hx (fun j u hu => by
    have hadd : (⟨q, 0, none⟩ : Addr).add j = ⟨q, j, none⟩ := by unfold Addr.add; split <;> simp_all
    rw [hadd, cell_bx]; exact hu) (by omega) h1 hnl (by omega) hn hK
/-- The edges. -/
def edgesL (L : List (Rat × Rat)) : List FG := (List.range L.length).map (edgeF L)
theorem fin_map {A : Type} (n : Nat) (f : Nat → A) : (List.finRange n).map (fun i => f i.val) = (List.range n).map f := by
  apply List.ext_getElem <;> simp
theorem FsG.cast2 {W : World} {V : List GV} {L : List FG} {F F2 : FG} {k : Nat} (h : FsG W V (L ++ [⟨F.a, F.b, F.c, F.lo, F.hi⟩]) k) (e : F2 = F) : FsG W V (L ++ [F2]) k := by subst e; exact h
instance : BoxT 143 := by constructor <;> decide
theorem frsC {w w0 : World} {a : Option Addr} {n c : Nat} {V : List FV} {L : List (Rat × Rat)} {k : Nat} [hs : Sl w (.slice a n c) V.length (rowF V) w0] [hp : PsF w V L k] (hk : k ≤ 10) (hV : V.length ≤ 1000) (h0 : 0 < V.length) (hE : ∀ i, i < L.length → pg L i ≠ pg L ((i + 1) % L.length)) :
    Calls Tryz.prog 90 #[.slice a n c] w (FsGRet w (edgesL L) (482 * k + 1230)) := by
  obtain rfl := hs.len
  have hlen := Lib.hid hp.len
  have HE := Lib.hid hE
  clear hE
  obtain ⟨g, rfl, hA0⟩ := hs.form h0
  have hA : At w g (rowF V) w := ⟨hA0.out, hA0.ltW, hA0.ltW⟩
  clear hA0 hs
  refine calls_marks Tryz.func90 rfl ?_
  simp only [Tryz.ntmps90, List.size_toArray, List.length_cons, List.length_nil, Nat.reduceAdd, Nat.reduceSub, Array.replicate_succ, Array.replicate_zero, List.push_toArray, List.append_toArray, List.nil_append, List.cons_append]
  go_wp2_with (first
    | (go_at_call 145; (with_reducible refine Calls.cEdges edgesC ?_); intro w1 _ br _))
  have hsz : w.heap.size ≤ w1.heap.size := (inferInstance : Kp w w1).out.size
  have ne1 : NeN w.heap.size br := ⟨fun e => by
    have h1 := (inferInstance : Bx w1 br 131 [.slice (some ⟨g, 0, none⟩) V.length c]).out
    have h2 := (inferInstance : Bx w1 w.heap.size 143 [.slice none 0 0]).out
    rw [← e, h2] at h1
    simp at h1⟩
  have lt1 : LtN br w1.heap.size := inferInstance
  have lt2 : LtN w.heap.size w1.heap.size := inferInstance
  have ge1 : Ge w w1.heap.size := ⟨hsz⟩
  refine range_edges2 w (n := 5) (by omega) rfl (by omega) (V := V) (Br := br) (g := g) (c := c) rfl (fun T x b => ((T.setIfInBounds 10 (.int .i64 (x.val : Int))).setIfInBounds 11 (.agg (edL V x.val).toArray)).setIfInBounds 5 (.pointer (some ⟨b, 0, none⟩)))
    (fun pre W => Below w.heap.size w W ∧ ∃ (U : List GV) (o : Value), Rn W o 182 17 U.length (rowG U) w1.heap.size W ∧ Hid (U.length = pre.length) ∧ FsG W U (pre.map fun i => edgeF L i.val) (482 * k + 1230) ∧ Bx W w.heap.size 143 [o]) (fun _ _ _ => False) (OwnFrom.and (ownFrom_below (Nat.le_refl _) hsz) ?own) (fun _ _ _ _ _ h _ _ => h.elim) ?start ?assign ?keep ?size ?body ?done ?stop
  case own =>
    rintro pre W W' row ⟨U, o, h1, h2, h3, h4⟩ hg hr
    have nc : Nc1 W W' := Nc1.of hg (fun r e => (hr r e).2)
    exact ⟨U, o, (h1.nc nc).here, h2, h3.nc, inferInstance⟩
  case start => exact ⟨(inferInstance : Kp w w1).out, [], .slice none 0 0, Rn.nil (Nat.le_refl _), Lib.hid rfl, FsG.nil, inferInstance⟩
  case keep =>
    rintro pre W W' ⟨h0, U, o, h1, h2, h3, h4⟩ hk
    have k1 : Kp1 W W' := ⟨hk.out⟩
    exact ⟨h0.trans (hk.out.mono h0.size), U, o, Rn.here inferInstance, h2, inferInstance, inferInstance⟩
  case size => exact fun pre W ⟨_, U, o, h1, _⟩ => h1.rw'.hb
  case assign =>
    intro l pre x W K hI hK
    simp only [encE, edL, List.zip_toArray, List.zip_cons_cons, List.zip_nil_right, List.foldl_toArray, List.foldl_cons, List.foldl_nil, List.setIfInBounds_toArray, List.set_cons_zero, List.set_cons_succ]
    simp only [edL, List.setIfInBounds_toArray, List.set_cons_zero, List.set_cons_succ] at hK
    gi_wp2
    refine hK _ _ rfl ?_ ?_
    · infer_instance
    · exact Bx.re rfl
  case body =>
    rintro l pre x b W ⟨hI, U, o, h1, h2, h3, h4⟩ hb hx hlt9
    have kw1 : Kp1 w W := ⟨hI⟩
    have nd1 : Ndl [o] := by obtain ⟨_, _, rfl⟩ := h1.slice; infer_instance
    obtain ⟨m, hm0⟩ : ∃ m, (x.val + 1) % V.length = m := ⟨_, rfl⟩
    have lq : LtN x.val V.length := ⟨x.isLt⟩
    have lm : LtN m V.length := ⟨by rw [← hm0]; exact Nat.mod_lt _ (by omega)⟩
    have hne : Hid (((pg L x.val).1, (pg L x.val).2) ≠ ((pg L m).1, (pg L m).2)) := Lib.hid (by
      have := HE.out x.val (by rw [← hlen.out]; exact x.isLt)
      rw [← hlen.out, hm0] at this
      exact this)
    dsimp only [edL] at hx ⊢
    rw [hm0] at hx ⊢
    simp only [List.setIfInBounds_toArray, List.set_cons_zero, List.set_cons_succ]
    gi_wp2_with (first
      | (refine ⟨trivial, ?_⟩; gi_at_call 151; (refine inR ?_); (with_reducible refine Calls.cFgB (gSegC (k := k) (by omega) (by omega) (by omega) hne) ?_); intro w2 _ nx dx px ny dy py nz dz pz nu du pu nv dv pv _ _ _ _ _)
      | (gi_at_builtin; go_loud (refine app_rnI1 (v := o) rfl (.tmp 20) (.tmp 22) 143 rfl Tryz.underlying143 info_gr rfl (by decide) (by decide) (by decide) inferInstance rfl (rowG_nd _) rfl (by rfl) ?h1 ?h2 (by have := h2.out; omega) ?_); (case h1 => exact GV.one ⟨_, _, _, _, _, _, _, _, _, _, _, _, _, _, _⟩); (case h2 => exact GV.nd ⟨_, _, _, _, _, _, _, _, _, _, _, _, _, _, _⟩); intro g2 c2 w3 i9 i10 i11))
    refine ⟨(inferInstance : Keo W _).out.from _, ⟨(inferInstance : Keo W _).out.size, fun y => inferInstance, fun y => inferInstance⟩, (inferInstance : Kp w _).out, U ++ [⟨nx, dx, px, ny, dy, py, nz, dz, pz, nu, du, pu, nv, dv, pv⟩], _, Rn.cast2 inferInstance (by simp) (by rw [rowG_snoc]; rfl), Lib.hid (by rw [List.length_append, List.length_append, h2.out]; rfl), ?_, Bx.re rfl⟩
    rw [List.map_append, List.map_cons, List.map_nil]
    exact FsG.cast2 (FsG.add (Nat.le_refl _) (Nat.le_refl _) (Nat.le_refl _) (Nat.le_refl _) (Nat.le_refl _)) (by rw [edgeF, ← hlen.out, hm0])
  case done =>
    rintro D W hD ⟨hI, U, o, h1, h2, h3, h4⟩ hK
    have kw1 : Kp1 w W := ⟨hI⟩
    have gd : Ge w D := ⟨Nat.le_trans hsz hD⟩
    obtain ⟨oa, oc, rfl⟩ := h1.slice
    have sl := Sl.ofRn (h := h1)
    go_wp2
    refine retM_mark (D := D) rfl hK ?_
    have kd : Dp1 W (W.putObj D (.deferred none)) D := ⟨rfl, _, hK⟩
    go_ret
    exact FsGRet.fin (V := U) (by rw [edgesL, hlen.out]; exact fin_map _ _) (Nat.le_refl _)
  case stop => exact fun _ _ _ _ _ _ h _ => h.elim
end Go.Proofs.YtdlnoeegboapkaaGreatDoor
