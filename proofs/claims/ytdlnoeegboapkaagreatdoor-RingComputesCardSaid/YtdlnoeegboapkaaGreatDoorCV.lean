/-
  Texts of this claim, joined: Rg3e, Rg12, Rg13, Rg14, Ln9.
-/
import Derived.Test.YtdlnoeegboapkaaGreatDoorCP
import Derived.Test.YtdlnoeegboapkaaGreatDoorCU
/- A range over the edges whose body writes boxes that were made ahead of it. printed by a small program (mkrg3e.py). -/
namespace Go.Proofs.YtdlnoeegboapkaaGreatDoor
open Go.RowKit
set_option maxRecDepth 100000
set_option maxHeartbeats 40000000
set_option synthInstance.maxSize 100000
set_option synthInstance.maxHeartbeats 1000000
set_option linter.unusedVariables false
attribute [local go_sem] Oper.semAt_some

/-- The ring's box and row are kept. -/
structure K2 (Br g c : Nat) (V : List FV) (wz : World) (A B : World) : Prop where
  size : A.heap.size ≤ B.heap.size
  bx : Bx A Br 131 [.slice (some ⟨g, 0, none⟩) V.length c] → Bx B Br 131 [.slice (some ⟨g, 0, none⟩) V.length c]
  at' : At A g (rowF V) wz → At B g (rowF V) wz
theorem K2.refl {Br g c : Nat} {V : List FV} {wz A : World} : K2 Br g c V wz A A := ⟨Nat.le_refl _, id, id⟩
theorem K2.trans {Br g c : Nat} {V : List FV} {wz A B C : World} (h : K2 Br g c V wz A B) (k : K2 Br g c V wz B C) : K2 Br g c V wz A C :=
  ⟨Nat.le_trans h.size k.size, fun x => k.bx (h.bx x), fun x => k.at' (h.at' x)⟩
theorem K2.of {Br g c : Nat} {V : List FV} {wz A B : World} (h : Kp A B) : K2 Br g c V wz A B := by
  have k : Kp1 A B := ⟨h.out⟩
  exact ⟨h.out.size, fun x => inferInstance, fun x => inferInstance⟩
theorem K2.put {Br g c : Nat} {V : List FV} {wz w : World} (W : World) (l : Nat) (o o' : Obj) (hl : w.heap.size ≤ l) (h : W.heap[l]? = some o) (h2 : o.isCells = false) (_ : o.isWalk = false) : K2 Br g c V wz W (W.putObj l o') := by
  refine ⟨by simp [World.putObj], fun x => ⟨?_⟩, fun x => ⟨fun j u hu => ?_, x.lt, by simpa [World.putObj] using x.ltW⟩⟩
  · have hne : l ≠ Br := fun e => by subst e; rw [x.out] at h; cases h; cases h2
    simp only [World.putObj, Array.getElem?_setIfInBounds]
    rw [if_neg hne]; exact x.out
  · have h3 := x.out j u hu
    have hne : l ≠ g := fun e => by
      subst e
      simp only [World.cell?, h] at h3
      cases o <;> first | exact Bool.noConfusion h2 | (simp at h3; done)
    simp only [World.cell?, World.putObj, Array.getElem?_setIfInBounds] at h3 ⊢
    rw [if_neg hne]; exact h3
theorem edges2_in (n : Nat) (hn : 1 ≤ n) (l Br g c : Nat) (V : List FV) (hV : V.length ≤ 1000000) (wz : World) (J Jx : List (Fin V.length) → World → Prop) (W : World) (hJ : AbidesFrom W.heap.size J)
    (hY : ∀ pre x W1, J pre W1 → pre.length < V.length → YieldAt Fence.wide (n - 1) Tryz.prog l (encE V x) W1 fun e W' =>
      (e = .returned (.bool true) ∧ J (pre ++ [x]) W' ∧ K2 Br g c V wz W1 W') ∨ (e = .returned (.bool false) ∧ Jx (pre ++ [x]) W'))
    [hB : Bx W Br 131 [.slice (some ⟨g, 0, none⟩) V.length c]] [hA : At W g (rowF V) wz] (h0 : J [] W) :
    CallsIn Fence.wide n Tryz.prog 202 #[.func (.yield l) #[] #[], .pointer (some ⟨Br, 0, none⟩)] W fun e W' => (∃ v, e = .returned v) ∧
      ((∃ ys, ys = List.finRange V.length ∧ J ys W') ∨ (∃ pre, pre <+: List.finRange V.length ∧ Jx pre W')) := by
  have hmx : Tryz.prog.follows .mixedOrders = true := by kernel_rfl
  refine callsIn_of_wp Tryz.func202 rfl trivial ?_ rfl
  simp only [Tryz.ntmps202, List.size_toArray, List.length_cons, List.length_nil, Nat.reduceAdd, Nat.reduceSub, Array.replicate_succ, Array.replicate_zero, List.push_toArray, List.append_toArray, List.nil_append, List.cons_append]
  gi_wp2
  gi_loopw [7] (fun i wr => ∃ q : Nat, q ≤ V.length ∧ i = .int .i64 (q : Int) ∧ J ((List.finRange V.length).take q) wr ∧ K2 Br g c V wz W wr) (fun i _ => V.length - (intOf i).toNat)
  case atStart => exact ⟨0, Nat.zero_le _, rfl, by simpa using h0, K2.refl⟩
  case round =>
    obtain ⟨q, hq, rfl, hJs, hnx⟩ := hrel
    by_cases hlt : q < V.length
    · have hlt' : (q : Int) < V.length := by omega
      have i1 := hnx.bx hB
      have i2 := hnx.at' hA
      have ew : IntKind.i64.wrap ((q : Int) + 1) = (q : Int) + 1 := wr_in (by omega) (by omega)
      obtain ⟨m, hm0⟩ : ∃ m, (q + 1) % V.length = m := ⟨_, rfl⟩
      have hm : m < V.length := by rw [← hm0]; exact Nat.mod_lt _ (by omega)
      have hm' : (m : Int) < V.length := by omega
      have er : ((q : Int) + 1).tmod (V.length : Int) = (m : Int) := by
        rw [← hm0, show (q : Int) + 1 = ((q + 1 : Nat) : Int) by omega]; exact (Int.ofNat_tmod _ _).symm
      have HM := Lib.hid hm0
      clear hm0
      have hz : ¬ ((V.length : Int) = 0) := by omega
      have hz2 : ¬ (V.length = 0) := by omega
      have hz3 : V ≠ [] := fun e => by rw [e] at hlt; simp at hlt
      gi_wp2
      refine nmreg (fun W4 => Kp wr W4 ∧ Bx W4 wr.heap.size 152 (fv V q).l ∧ Bx W4 Br 131 [.slice (some ⟨g, 0, none⟩) V.length c] ∧ At W4 g (rowF V) wz) ⟨inferInstance, Bx.re rfl, inferInstance, inferInstance⟩ ?_
      intro W4 ⟨k1, k2, k3, k4⟩
      have hJ4 := hJ _ _ W4.drew none hJs (below_gb (inferInstance : Kp wr W4.drew).out) (fun r e => by cases e)
      obtain ⟨fn, tmps, assign, body, hy, hR⟩ := hY _ ⟨q, hlt⟩ _ hJ4 (by simp; omega)
      have hR' := hR.mono (R' := fun e W' => ∃ b : Bool, e = .returned (.bool b) ∧ (b = true → J ((List.finRange V.length).take (q + 1)) W' ∧ K2 Br g c V wz W4.drew W') ∧ (b = false → Jx ((List.finRange V.length).take (q + 1)) W')) (by
        rintro e W' (⟨h1, h2, h3⟩ | ⟨h1, h2⟩)
        · exact ⟨true, h1, fun _ => ⟨(by rw [upto_succ hlt]; exact h2), h3⟩, fun h => (by cases h)⟩
        · exact ⟨false, h1, fun h => (by cases h), fun _ => (by rw [upto_succ hlt]; exact h2)⟩)
      clear hR
      dsimp only [encE, edL] at hy
      rw [HM.out] at hy
      simp only [FV.l] at k2
      clear hY hJ
      gi_region_with_o (refine hR'.mono ?_; rintro e W5 ⟨b, rfl, hb1, hb2⟩)
      all_goals
        cases b with
        | true =>
          obtain ⟨hJ5, hk5⟩ := hb1 rfl
          have hk6 : K2 Br g c V wz wr W5 := (K2.of (inferInstance : Kp wr W4.drew)).trans hk5
          gi_wp2
          go_roundw
          case rel => exact ⟨q + 1, by omega, by go_num, hJ5, hnx.trans hk6⟩
          case measure => simp [intOf]; omega
        | false =>
          have hx5 := hb2 rfl
          gi_wp2
          refine bodyPost_ret (results_none rfl _ _ _) rfl ?_
          exact ⟨⟨_, rfl⟩, .inr ⟨_, List.take_prefix _ _, hx5⟩⟩
    · obtain rfl : q = V.length := by omega
      gi_wp2
      go_end0
      exact ⟨⟨_, rfl⟩, .inl ⟨_, rfl, by rw [List.take_of_length_le (by simp)] at hJs; exact hJs⟩⟩
theorem edges_stops2 (n : Nat) (hn : 1 ≤ n) (Br g c : Nat) (V : List FV) (hV : V.length ≤ 1000000) (w wz : World) [hB : Bx w Br 131 [.slice (some ⟨g, 0, none⟩) V.length c]] [hA : At w g (rowF V) wz] :
    SeqStopsK Fence.wide n Tryz.prog 202 #[.pointer (some ⟨Br, 0, none⟩)] (encE V) (K2 Br g c V wz) (fun ys => ys = List.finRange V.length) (fun pre => pre <+: List.finRange V.length) V.length w := fun l J Jx W hW hJ _ hY h0 => by
  have kW : Kp1 w W := ⟨hW⟩
  exact edges2_in n hn l Br g c V hV wz J Jx W hJ hY h0
theorem range_edges2 {n : Nat} {Q : Exit → Act → World → Prop} {w : World} (wz : World) {go_ : Operand} {ps : Array Tmp} {assign body : Code} {Ts : Array Value} {Br g c : Nat} {V : List FV} (hn : 3 ≤ n) (hg : Act.eval { tmps := Ts, defers := [] } go_ = .func (.func 202) #[] #[.pointer (some ⟨Br, 0, none⟩)]) (hV : V.length ≤ 1000000)
    [hB : Bx w Br 131 [.slice (some ⟨g, 0, none⟩) V.length c]] [hA : At w g (rowF V) wz] (hps : ps.size = 2) (upd : Array Value → Fin V.length → Nat → Array Value)
    (I : List (Fin V.length) → World → Prop) (Ix : Code → List (Fin V.length) → World → Prop) (hI : OwnFrom w.heap.size I) (hIx : ∀ c, OwnFrom w.heap.size (Ix c)) (h0 : I [] w)
    (hassign : ∀ (l : Nat) (pre : List (Fin V.length)) (x : Fin V.length) (W : World) (K : Act → World → Prop), I pre W → (∀ W' b, W.heap.size = b → Kp W W' → Bx W' b 238 (edL V x.val) → K { tmps := upd Ts x b, defers := [] } W') →
      assign.wpIn (Fence.wide.inRound l) (n - 1 - 1) Tryz.prog (Exit.then K (fun _ _ _ => False)) { tmps := (ps.zip (encE V x)).foldl (fun t (p, v) => t.setIfInBounds p v) Ts, defers := [] } W)
    (hIb : ∀ pre W W', I pre W → Kp W W' → I pre W') (hIs : ∀ pre W, I pre W → w.heap.size ≤ W.heap.size)
    (hbody : ∀ (l : Nat) (pre : List (Fin V.length)) (x : Fin V.length) (b : Nat) (W : World), I pre W → w.heap.size ≤ b → Bx W b 238 (edL V x.val) → pre.length < V.length → body.wpIn (Fence.wide.inRound l) (n - 1 - 1) Tryz.prog (ownPostG w.heap.size (K2 Br g c V wz) I Ix (pre ++ [x]) W) { tmps := upd Ts x b, defers := [] } W)
    (hdone : ∀ (D : Nat) (W : World), w.heap.size ≤ D → I (List.finRange V.length) W → W.heap[D]? = some (.deferred (some [])) → Q .normal { tmps := Ts, defers := [{ target := .collected D, args := #[] }] } W)
    (hstop : ∀ (D : Nat) (c : Code) (pre : List (Fin V.length)) (W : World), w.heap.size ≤ D → pre <+: List.finRange V.length → Ix c pre W → W.heap[D]? = some (.deferred (some [])) → c.wpIn Fence.wide n Tryz.prog Q { tmps := Ts, defers := [{ target := .collected D, args := #[] }] } W) :
    (Code.rangeFunc go_ ps assign body).wp Tryz.prog Q { tmps := Ts, defers := [] } w := by
  refine (wpIn_wide (n := n)).1 ?_
  refine wpIn_rangeFunc_ownH rfl (by omega) hg trivial (enters_of Tryz.func202 (by kernel_rfl) rfl) (edges_stops2 (n - 1) (by omega) Br g c V hV w wz) K2.trans (fun W l o o' => K2.put W l o o') (Below.refl _ _) (fun _ => by rw [hps]; rfl)
    I Ix hI hIx h0 (fun x a' W => ∃ b, w.heap.size ≤ b ∧ Bx W b 238 (edL V x.val) ∧ a' = { tmps := upd Ts x b, defers := [] }) ?_ ?_ ?_ ?_ ?_
  · intro x a' s A B row ⟨b, h1, h2, h3⟩ hgr hr
    refine ⟨b, h1, ⟨?_⟩, h3⟩
    rw [hgr.block b h2.lt (fun e => ?_)]
    · exact h2.out
    · obtain ⟨_, o, ho, hc⟩ := hr b e.symm
      rw [h2.out] at ho
      cases ho
      cases hc
  · intro l pre x W K hi hK
    refine hassign l pre x W K hi (fun W' b hb hk hx => ?_)
    have hs := hIs _ _ hi
    exact hK _ _ ((KeepsOthers.of_grownBy (row := none) (below_gb hk.out) (fun j o e => by cases e)).from _) (K2.of hk) (hIb _ _ _ hi hk) ⟨b, by omega, hx, rfl⟩
  · rintro l pre x a' W _ _ hi ⟨b, h1, h2, rfl⟩ hlt
    exact hbody l pre x b W hi h1 h2 hlt
  · rintro D xs W hD rfl hi hK
    exact hdone D W hD hi hK
  · exact hstop
end Go.Proofs.YtdlnoeegboapkaaGreatDoor

/- What keeps where only blocks without cells turn; append inside a fenced walk; the edges of a ring as segments. printed by a small program (mkrg12.py). -/
namespace Go.Proofs.YtdlnoeegboapkaaGreatDoor
open Go.RowKit
set_option maxRecDepth 100000
set_option maxHeartbeats 40000000
set_option synthInstance.maxSize 100000
set_option synthInstance.maxHeartbeats 1000000
set_option linter.unusedVariables false
attribute [local go_sem] Oper.semAt_some

/-- From W to W2 the heap grew, and of what was there only blocks without cells turned. -/
class Nc1 (W : outParam World) (W2 : World) : Prop where
  size : W.heap.size ≤ W2.heap.size
  cells : ∀ {b : Nat} {l : Array Value} {t : TypeId} {z : Nat × Nat}, W.heap[b]? = some (.cells l t z) → W2.heap[b]? = some (.cells l t z)
section
variable {W W2 w0 w : World}
theorem Nc1.of {row : Option Nat} (h : W.grownBy W2 row) (hr : ∀ r, row = some r → ∃ o : Obj, W.heap[r]? = some o ∧ o.isCells = false) : Nc1 W W2 :=
  ⟨h.size, fun {b l t z} hb => by
    rw [h.block b (Array.getElem?_eq_some_iff.1 hb).1 (fun e => ?_)]
    · exact hb
    · obtain ⟨o, ho, hc⟩ := hr b e.symm
      rw [hb] at ho
      cases ho
      cases hc⟩
theorem Nc1.cell (k : Nc1 W W2) {a : Addr} {v : Value} (h : W.cell? a = some v) : W2.cell? a = some v := by
  unfold World.cell? at h ⊢
  match hb : W.heap[a.block]? with
  | none => rw [hb] at h; simp at h
  | some o =>
    rw [hb] at h
    cases o with
    | cells l t z => rw [k.cells hb]; exact h
    | _ => simp at h
theorem Rd.nc {v : Value} {l : List Nat} (h : Rd W v l) (k : Nc1 W W2) : Rd W2 v l := by
  obtain ⟨a, cap, rfl, h1, h2, h3, h4⟩ := h
  refine ⟨a, cap, rfl, h1, h2, h3, fun h0 => ?_⟩
  obtain ⟨b, off, rfl, hcell⟩ := h4 h0
  exact ⟨b, off, rfl, fun j hj => k.cell (hcell j hj)⟩
theorem Pres.nc (k : Nc1 W W2) : Pres W W2 := ⟨fun h => ⟨h.1.nc k, h.2⟩, fun h => by obtain ⟨l, h1, h2⟩ := h; exact ⟨l, h1.nc k, h2⟩, fun {b l} y => k.cells y⟩
instance (priority := low) CF.nc {v : Value} {q : Rat} {k : Nat} [b : Nc1 W W2] [h : CF W v q k] : CF W2 v q k := ⟨h.out.map (Pres.nc b)⟩
instance (priority := low) Bx.nc {b : Nat} {t : TypeId} {l : List Value} [k : Nc1 W W2] [h : Bx W b t l] : Bx W2 b t l := ⟨k.cells h.out⟩
theorem Rn.nc {v : Value} {e : TypeId} {sz n base : Nat} {xs : List Value} (h : Rn W v e sz n xs base w0) (k : Nc1 W W2) : Rn W2 v e sz n xs base w0 :=
  h.keep k.size (fun g hg => by
    obtain ⟨t, l, h1, _⟩ := (h.nd g hg).out
    rw [h1]; exact k.cells h1)
theorem FsG.nc {V : List GV} {L : List FG} {k : Nat} (h : FsG W V L k) [b : Nc1 W W2] : FsG W2 V L k := ⟨h.len, fun i hi => by have := h.x i hi; infer_instance, fun i hi => by have := h.y i hi; infer_instance, fun i hi => by have := h.z i hi; infer_instance, fun i hi => by have := h.u i hi; infer_instance, fun i hi => by have := h.v i hi; infer_instance⟩
instance FsG.dp {V : List GV} {L : List FG} {k : Nat} {D : Nat} [b : Dp1 W W2 D] [h : FsG W V L k] : FsG W2 V L k := ⟨h.len, fun i hi => by have := h.x i hi; infer_instance, fun i hi => by have := h.y i hi; infer_instance, fun i hi => by have := h.z i hi; infer_instance, fun i hi => by have := h.u i hi; infer_instance, fun i hi => by have := h.v i hi; infer_instance⟩
end
/-- Blocks without cells are kept. -/
class Keo (w W : World) : Prop where out : KeepsOthers w W
section
variable {w W W2 : World}
instance Keo.rf : Keo w w := ⟨KeepsOthers.refl w⟩
instance Keo.al {o : Obj} [h : Keo w W] : Keo w (W.alloc o) := ⟨h.out.trans (KeepsOthers.alloc W o)⟩
instance Keo.dr [h : Keo w W] : Keo w W.drew := ⟨h.out.trans (KeepsOthers.drew W)⟩
instance Keo.st {a : Addr} {v : Value} [h : Keo w W] : Keo w (W.setCell a v) := ⟨h.out.trans (KeepsOthers.setCell W a v)⟩
instance (priority := low) Keo.kp [k : Kp1 W W2] [h : Keo w W] : Keo w W2 := ⟨h.out.trans (KeepsOthers.of_grownBy (row := none) (below_gb k.out) (fun j o e => by cases e))⟩
instance (priority := low) Keo.apn [k : Apn W W2] [h : Keo w W] : Keo w W2 := ⟨h.out.trans (by
  obtain ⟨row, h1, h2⟩ := k.out
  refine KeepsOthers.of_grownBy h1 (fun j o e ho => ?_)
  obtain ⟨t, l, h3, _⟩ := (h2 j e).out
  rw [h3] at ho
  cases ho
  rfl)⟩
end
theorem app_rnI {F : Fence} {nn : Nat} {W w0 : World} {ops : Array Oper} {rest : List Oper} {o : Oper} {a : Act} {Q : Exit → Act → World → Prop} (hg : o.guard = none) (s x : Operand) (t : TypeId)
    (hop : o.op = .call { callee := .builtin .append, args := #[s, x], argTypes := #[t, t] }) {e : TypeId} (ht : Tryz.prog.underlying t = some (.slice e)) {z : Value} {sz bt : Nat}
    (hi : (Tryz.prog.info? e).map (fun i => (i.zero, i.size, i.bytes)) = some (some z, sz, bt)) (hzs : z.cells.size = sz) (hsz : 0 < sz) (hbt : bt ≤ 1000) (hz0 : ∀ u ∈ z.cells.toList, isDigit32 u = false) (he : BoxT e) {v : Value} {n : Nat} {xs : List Value} {base : Nat} (hs : a.eval s = v) [hr : Rn W v e sz n xs base w0]
    (hnx : ∀ u ∈ xs, isDigit32 u = false) {ad : Addr} {m c : Nat} {l : List Value} (hx : a.eval x = .slice (some ad) m c) (hb : ∀ j u, l[j]? = some u → W.cell? (ad.add j) = some u) (hl : l.length = m * sz) (h1 : ∀ u ∈ l, u.oneCell' = true) (hnl : ∀ u ∈ l, isDigit32 u = false) (hm : 0 < m) (hn : n + m ≤ 1000000)
    (hK : ∀ g c W' [Ap1 W W' base w0] [Apn W W'] [Rn W' (.slice (some ⟨g, 0, none⟩) (n + m) c) e sz (n + m) (xs ++ l) base W'], wpListIn F nn Tryz.prog ops Q rest (a.put o.dst (.slice (some ⟨g, 0, none⟩) (n + m) c)) W') :
    wpListIn F nn Tryz.prog ops Q (o :: rest) a W := by
  obtain ⟨i0, hi0⟩ : ∃ i0, Tryz.prog.info? e = some i0 := by
    cases h : Tryz.prog.info? e with
    | none => rw [h] at hi; cases hi
    | some i0 => exact ⟨i0, rfl⟩
  rw [hi0] at hi
  simp only [Option.map_some, Option.some.injEq, Prod.mk.injEq] at hi
  obtain ⟨hz, hsz', hbt'⟩ := hi
  have hby : (n + m) * bt ≤ 140737488355328 := by
    have : (n + m) * bt ≤ 1000000 * 1000 := Nat.mul_le_mul hn hbt
    omega
  have hmx : n + m ≤ maxLen := by unfold maxLen; omega
  refine wpListIn_plain hg fun K hKK => ?_
  obtain ⟨v', w', hrun, h2, h3, h4⟩ := run_append_own (P := Tryz.prog) W base t o.type e i0 z sz bt ht hi0 hz hsz' hbt' hzs hsz v n xs hr.rw'.out ad m c l hl hb h1 hmx hby hr.rw'.hb
  have hsoft := append_nd (P := Tryz.prog) W t o.type e i0 z ht hi0 hz he (base := base) (by rw [hsz']; exact hr.rw'.out) hr.nd hnx ad m c l (by rw [hsz']; exact hl) hb h1 hnl hz0 hmx (by rw [hbt']; exact hby) hrun
  have hne : v' ≠ .slice none 0 0 := fun e => by have := (h4.1 e).2; omega
  rcases h2.2 with ⟨e', _⟩ | ⟨g, cap, cur, e', _⟩
  · exact absurd e' hne
  · subst e'
    unfold Oper.wpIn
    refine ⟨by simp [Oper.about, hop, resolve, Target.leads, Sem.run_pure], ?_⟩
    rw [Oper.semAt_plain F _ _ (by rw [hop]; intro c hc'; cases hc')]
    simp [execOp, hop, resolve, invoke, builtin, hs, hx, hrun, Result.andThen]
    have i1 : Ap1 W w' base w0 := ⟨⟨_, h3, fun k hk => ⟨(hr.rw'.out.lt k hk).1, hr.rw'.lt k hk⟩⟩⟩
    have i2 : Apn W w' := ⟨⟨_, h3, hr.nd⟩⟩
    have i3 : Rn w' (.slice (some ⟨g, 0, none⟩) (n + m) cap) e sz (n + m) (xs ++ l) base w' := ⟨Rw.mk1 h2 (Nat.le_trans hr.rw'.hb h3.size), hsoft⟩
    exact hKK _ _ (@hK g cap w' i1 i2 i3)
theorem app_rnI1 {F : Fence} {nn : Nat} {W w0 : World} {ops : Array Oper} {rest : List Oper} {o : Oper} {a : Act} {Q : Exit → Act → World → Prop} (hg : o.guard = none) (s x : Operand) (t : TypeId)
    (hop : o.op = .call { callee := .builtin .append, args := #[s, x], argTypes := #[t, t] }) {e : TypeId} (ht : Tryz.prog.underlying t = some (.slice e)) {z : Value} {sz bt : Nat}
    (hi : (Tryz.prog.info? e).map (fun i => (i.zero, i.size, i.bytes)) = some (some z, sz, bt)) (hzs : z.cells.size = sz) (hsz : 0 < sz) (hbt : bt ≤ 1000) (hz0 : ∀ u ∈ z.cells.toList, isDigit32 u = false) (he : BoxT e) {v : Value} {n : Nat} {xs : List Value} {base : Nat} (hs : a.eval s = v) [hr : Rn W v e sz n xs base w0]
    (hnx : ∀ u ∈ xs, isDigit32 u = false) {q : Nat} {ety : TypeId} {l : List Value} (hx : a.eval x = .slice (some ⟨q, 0, none⟩) 1 1) [hb : Bx W q ety l] (hl : l.length = sz) (h1 : ∀ u ∈ l, u.oneCell' = true) (hnl : ∀ u ∈ l, isDigit32 u = false) (hn : n + 1 ≤ 1000000)
    (hK : ∀ g c W' [Ap1 W W' base w0] [Apn W W'] [Rn W' (.slice (some ⟨g, 0, none⟩) (n + 1) c) e sz (n + 1) (xs ++ l) base W'], wpListIn F nn Tryz.prog ops Q rest (a.put o.dst (.slice (some ⟨g, 0, none⟩) (n + 1) c)) W') :
    wpListIn F nn Tryz.prog ops Q (o :: rest) a W :=
  app_rnI hg s x t hop ht hi hzs hsz hbt hz0 he hs hnx hx (fun j u hu => by
    have hadd : (⟨q, 0, none⟩ : Addr).add j = ⟨q, j, none⟩ := by unfold Addr.add; split <;> simp_all
    rw [hadd, cell_bx]; exact hu) (by omega) h1 hnl (by omega) hn hK
/-- The edges. -/
def edgesL (L : List (Rat × Rat)) : List FG := (List.range L.length).map (edgeF L)
theorem fin_map {A : Type} (n : Nat) (f : Nat → A) : (List.finRange n).map (fun i => f i.val) = (List.range n).map f := by
  apply List.ext_getElem <;> simp
theorem FsG.cast2 {W : World} {V : List GV} {L : List FG} {F F2 : FG} {k : Nat} (h : FsG W V (L ++ [⟨F.a, F.b, F.c, F.lo, F.hi⟩]) k) (e : F2 = F) : FsG W V (L ++ [F2]) k := by subst e; exact h
instance : BoxT 143 := by constructor <;> decide
theorem frsC {w w0 : World} {a : Option Addr} {n c : Nat} {V : List FV} {L : List (Rat × Rat)} {k : Nat} [hs : Sl w (.slice a n c) V.length (rowF V) w0] [hp : PsF w V L k] (hk : k ≤ 10) (hV : V.length ≤ 1000) (h0 : 0 < V.length) (hE : ∀ i, i < L.length → pg L i ≠ pg L ((i + 1) % L.length)) :
    Calls Tryz.prog 90 #[.slice a n c] w (FsGRet w (edgesL L) (482 * k + 1230)) := by
  obtain rfl := hs.len
  have hlen := Lib.hid hp.len
  have HE := Lib.hid hE
  clear hE
  obtain ⟨g, rfl, hA0⟩ := hs.form h0
  have hA : At w g (rowF V) w := ⟨hA0.out, hA0.ltW, hA0.ltW⟩
  clear hA0 hs
  refine calls_marks Tryz.func90 rfl ?_
  simp only [Tryz.ntmps90, List.size_toArray, List.length_cons, List.length_nil, Nat.reduceAdd, Nat.reduceSub, Array.replicate_succ, Array.replicate_zero, List.push_toArray, List.append_toArray, List.nil_append, List.cons_append]
  go_wp2_with (first
    | (go_at_call 145; (with_reducible refine Calls.cEdges edgesC ?_); intro w1 _ br _))
  have hsz : w.heap.size ≤ w1.heap.size := (inferInstance : Kp w w1).out.size
  have ne1 : NeN w.heap.size br := ⟨fun e => by
    have h1 := (inferInstance : Bx w1 br 131 [.slice (some ⟨g, 0, none⟩) V.length c]).out
    have h2 := (inferInstance : Bx w1 w.heap.size 143 [.slice none 0 0]).out
    rw [← e, h2] at h1
    simp at h1⟩
  have lt1 : LtN br w1.heap.size := inferInstance
  have lt2 : LtN w.heap.size w1.heap.size := inferInstance
  have ge1 : Ge w w1.heap.size := ⟨hsz⟩
  refine range_edges2 w (n := 5) (by omega) rfl (by omega) (V := V) (Br := br) (g := g) (c := c) rfl (fun T x b => ((T.setIfInBounds 10 (.int .i64 (x.val : Int))).setIfInBounds 11 (.agg (edL V x.val).toArray)).setIfInBounds 5 (.pointer (some ⟨b, 0, none⟩)))
    (fun pre W => Below w.heap.size w W ∧ ∃ (U : List GV) (o : Value), Rn W o 182 17 U.length (rowG U) w1.heap.size W ∧ Hid (U.length = pre.length) ∧ FsG W U (pre.map fun i => edgeF L i.val) (482 * k + 1230) ∧ Bx W w.heap.size 143 [o]) (fun _ _ _ => False) (OwnFrom.and (ownFrom_below (Nat.le_refl _) hsz) ?own) (fun _ _ _ _ _ h _ _ => h.elim) ?start ?assign ?keep ?size ?body ?done ?stop
  case own =>
    rintro pre W W' row ⟨U, o, h1, h2, h3, h4⟩ hg hr
    have nc : Nc1 W W' := Nc1.of hg (fun r e => (hr r e).2)
    exact ⟨U, o, (h1.nc nc).here, h2, h3.nc, inferInstance⟩
  case start => exact ⟨(inferInstance : Kp w w1).out, [], .slice none 0 0, Rn.nil (Nat.le_refl _), Lib.hid rfl, FsG.nil, inferInstance⟩
  case keep =>
    rintro pre W W' ⟨h0, U, o, h1, h2, h3, h4⟩ hk
    have k1 : Kp1 W W' := ⟨hk.out⟩
    exact ⟨h0.trans (hk.out.mono h0.size), U, o, Rn.here inferInstance, h2, inferInstance, inferInstance⟩
  case size => exact fun pre W ⟨_, U, o, h1, _⟩ => h1.rw'.hb
  case assign =>
    intro l pre x W K hI hK
    simp only [encE, edL, List.zip_toArray, List.zip_cons_cons, List.zip_nil_right, List.foldl_toArray, List.foldl_cons, List.foldl_nil, List.setIfInBounds_toArray, List.set_cons_zero, List.set_cons_succ]
    simp only [edL, List.setIfInBounds_toArray, List.set_cons_zero, List.set_cons_succ] at hK
    gi_wp2
    refine hK _ _ rfl ?_ ?_
    · infer_instance
    · exact Bx.re rfl
  case body =>
    rintro l pre x b W ⟨hI, U, o, h1, h2, h3, h4⟩ hb hx hlt9
    have kw1 : Kp1 w W := ⟨hI⟩
    have nd1 : Ndl [o] := by obtain ⟨_, _, rfl⟩ := h1.slice; infer_instance
    obtain ⟨m, hm0⟩ : ∃ m, (x.val + 1) % V.length = m := ⟨_, rfl⟩
    have lq : LtN x.val V.length := ⟨x.isLt⟩
    have lm : LtN m V.length := ⟨by rw [← hm0]; exact Nat.mod_lt _ (by omega)⟩
    have hne : Hid (((pg L x.val).1, (pg L x.val).2) ≠ ((pg L m).1, (pg L m).2)) := Lib.hid (by
      have := HE.out x.val (by rw [← hlen.out]; exact x.isLt)
      rw [← hlen.out, hm0] at this
      exact this)
    dsimp only [edL] at hx ⊢
    rw [hm0] at hx ⊢
    simp only [List.setIfInBounds_toArray, List.set_cons_zero, List.set_cons_succ]
    gi_wp2_with (first
      | (refine ⟨trivial, ?_⟩; gi_at_call 151; (refine inR ?_); (with_reducible refine Calls.cFgB (gSegC (k := k) (by omega) (by omega) (by omega) hne) ?_); intro w2 _ nx dx px ny dy py nz dz pz nu du pu nv dv pv _ _ _ _ _)
      | (gi_at_builtin; go_loud (refine app_rnI1 (v := o) rfl (.tmp 20) (.tmp 22) 143 rfl Tryz.underlying143 info_gr rfl (by decide) (by decide) (by decide) inferInstance rfl (rowG_nd _) rfl (by rfl) ?h1 ?h2 (by have := h2.out; omega) ?_); (case h1 => exact GV.one ⟨_, _, _, _, _, _, _, _, _, _, _, _, _, _, _⟩); (case h2 => exact GV.nd ⟨_, _, _, _, _, _, _, _, _, _, _, _, _, _, _⟩); intro g2 c2 w3 i9 i10 i11))
    refine ⟨(inferInstance : Keo W _).out.from _, ⟨(inferInstance : Keo W _).out.size, fun y => inferInstance, fun y => inferInstance⟩, (inferInstance : Kp w _).out, U ++ [⟨nx, dx, px, ny, dy, py, nz, dz, pz, nu, du, pu, nv, dv, pv⟩], _, Rn.cast2 inferInstance (by simp) (by rw [rowG_snoc]; rfl), Lib.hid (by rw [List.length_append, List.length_append, h2.out]; rfl), ?_, Bx.re rfl⟩
    rw [List.map_append, List.map_cons, List.map_nil]
    exact FsG.cast2 (FsG.add (Nat.le_refl _) (Nat.le_refl _) (Nat.le_refl _) (Nat.le_refl _) (Nat.le_refl _)) (by rw [edgeF, ← hlen.out, hm0])
  case done =>
    rintro D W hD ⟨hI, U, o, h1, h2, h3, h4⟩ hK
    have kw1 : Kp1 w W := ⟨hI⟩
    have gd : Ge w D := ⟨Nat.le_trans hsz hD⟩
    obtain ⟨oa, oc, rfl⟩ := h1.slice
    have sl := Sl.ofRn (h := h1)
    go_wp2
    refine retM_mark (D := D) rfl hK ?_
    have kd : Dp1 W (W.putObj D (.deferred none)) D := ⟨rfl, _, hK⟩
    go_ret
    exact FsGRet.fin (V := U) (by rw [edgesL, hlen.out]; exact fin_map _ _) (Nat.le_refl _)
  case stop => exact fun _ _ _ _ _ _ h _ => h.elim
end Go.Proofs.YtdlnoeegboapkaaGreatDoor

/- Segments of package geo written; ring.Edges. printed by a small program (mkrg13.py). -/
namespace Go.Proofs.YtdlnoeegboapkaaGreatDoor
open Go.RowKit
set_option maxRecDepth 100000
set_option maxHeartbeats 40000000
set_option synthInstance.maxSize 100000
set_option synthInstance.maxHeartbeats 1000000
set_option linter.unusedVariables false

theorem take_fg {L : List FG} {q : Nat} (h : q < L.length) : L.take (q + 1) = L.take q ++ [⟨(fg L q).a, (fg L q).b, (fg L q).c, (fg L q).lo, (fg L q).hi⟩] := by
  rw [List.take_succ_eq_append_getElem h, fg_get h]
/-- A span with both ends is returned. -/
def SpARet (w : World) (x y : Rat) (k : Nat) (e : Ending) (w' : World) : Prop := ∃ gu au lu cu aau llu ccu gv av lv cv aav llv ccv, e = .returned (.agg #[.bool gu, .slice au lu cu, .slice aau llu ccu, .bool gv, .slice av lv cv, .slice aav llv ccv, .bool false, .bool false]) ∧ CA w' (.agg #[.bool gu, .slice au lu cu, .slice aau llu ccu]) x k ∧ CA w' (.agg #[.bool gv, .slice av lv cv, .slice aav llv ccv]) y k ∧ Below w.heap.size w w'
theorem Calls.cSpA {P : Program} {f : FuncId} {args : Array Value} {w : World} {x y : Rat} {k : Nat} {K : Ending → World → Prop} (h : Calls P f args w (SpARet w x y k))
    (hK : ∀ w' [Kp1 w w'] (gu : Bool) (au : Option Addr) (lu : Nat) (cu : Nat) (aau : Option Addr) (llu : Nat) (ccu : Nat) (gv : Bool) (av : Option Addr) (lv : Nat) (cv : Nat) (aav : Option Addr) (llv : Nat) (ccv : Nat) [CA w' (.agg #[.bool gu, .slice au lu cu, .slice aau llu ccu]) x k] [CA w' (.agg #[.bool gv, .slice av lv cv, .slice aav llv ccv]) y k], K (.returned (.agg #[.bool gu, .slice au lu cu, .slice aau llu ccu, .bool gv, .slice av lv cv, .slice aav llv ccv, .bool false, .bool false])) w') : Calls P f args w K := by
  refine h.mono ?_
  rintro e w' ⟨gu, au, lu, cu, aau, llu, ccu, gv, av, lv, cv, aav, llv, ccv, rfl, hx, hy, hb⟩
  exact @hK w' ⟨hb⟩ gu au lu cu aau llu ccu gv av lv cv aav llv ccv hx hy
theorem SpARet.fin {w w' : World} {gu : Bool} {au : Option Addr} {lu : Nat} {cu : Nat} {aau : Option Addr} {llu : Nat} {ccu : Nat} {gv : Bool} {av : Option Addr} {lv : Nat} {cv : Nat} {aav : Option Addr} {llv : Nat} {ccv : Nat} {x x' y y' : Rat} {k kx ky : Nat} [b : Kp w w'] [hx : CA w' (.agg #[.bool gu, .slice au lu cu, .slice aau llu ccu]) x kx] [hy : CA w' (.agg #[.bool gv, .slice av lv cv, .slice aav llv ccv]) y ky] (ex : x = x') (mx : kx ≤ k) (ey : y = y') (my : ky ≤ k) : SpARet w x' y' k (.returned (.agg #[.bool gu, .slice au lu cu, .slice aau llu ccu, .bool gv, .slice av lv cv, .slice aav llv ccv, .bool false, .bool false])) w' :=
  ⟨_, _, _, _, _, _, _, _, _, _, _, _, _, _, rfl, hx.cast ex mx, hy.cast ey my, b.out⟩
theorem ivApiC {w : World} {nu : Int} {du : Int} {pu : Option Addr} {nv : Int} {dv : Int} {pv : Option Addr} {x y : Rat} {k : Nat} [hx : CF w (.agg #[.int .i64 nu, .int .i64 du, .pointer pu]) x k] [hy : CF w (.agg #[.int .i64 nv, .int .i64 dv, .pointer pv]) y k] (b : k ≤ 300000) :
    Calls Tryz.prog 206 #[.agg #[.int .i64 nu, .int .i64 du, .pointer pu, .int .i64 nv, .int .i64 dv, .pointer pv, .bool false, .bool false]] w (SpARet w x y k) := by
  go_enter Tryz.func206, Tryz.ntmps206
  go_wp2_with (first
    | (go_at_call 92; (with_reducible refine Calls.cA (rApiC (by omega)) ?_); intros))
  refine ret_bx rfl Tryz.underlying158 rfl (by kernel_rfl) rfl rfl rfl ?_
  exact SpARet.fin rfl (by omega) rfl (by omega)
theorem frApiC {w : World} {nx : Int} {dx : Int} {px : Option Addr} {ny : Int} {dy : Int} {py : Option Addr} {nz : Int} {dz : Int} {pz : Option Addr} {nu : Int} {du : Int} {pu : Option Addr} {nv : Int} {dv : Int} {pv : Option Addr} {a b c : Int} {lo hi : Rat} {k : Nat} [hx : CF w (.agg #[.int .i64 nx, .int .i64 dx, .pointer px]) (a : Rat) k] [hy : CF w (.agg #[.int .i64 ny, .int .i64 dy, .pointer py]) (b : Rat) k] [hz : CF w (.agg #[.int .i64 nz, .int .i64 dz, .pointer pz]) (c : Rat) k] [hu : CF w (.agg #[.int .i64 nu, .int .i64 du, .pointer pu]) lo k] [hv : CF w (.agg #[.int .i64 nv, .int .i64 dv, .pointer pv]) hi k] (hk : k ≤ 300000) :
    Calls Tryz.prog 150 #[.agg #[.int .i64 nx, .int .i64 dx, .pointer px, .int .i64 ny, .int .i64 dy, .pointer py, .int .i64 nz, .int .i64 dz, .pointer pz, .int .i64 nu, .int .i64 du, .pointer pu, .int .i64 nv, .int .i64 dv, .pointer pv, .bool false, .bool false]] w (FhVRet w ⟨a, b, c, lo, hi⟩ k) := by
  go_enter Tryz.func150, Tryz.ntmps150
  go_wp2_with fail
  refine rgn [w.heap.size + 1] [] fun hHeld => ?_
  refine tk 0 hHeld ?_
  refine tk 1 hHeld ?_
  refine tk 3 hHeld ?_
  refine tk 4 hHeld ?_
  refine st 2 fun K hK => ?_
  go_simp
  (with_reducible refine Calls.cLZ (lnApiC (by omega)) ?_); intros
  refine hd hK ?_
  clear hHeld hK K
  intro hHeld
  refine st 5 fun K hK => ?_
  go_simp
  (with_reducible refine Calls.cSpA (ivApiC (k := k) (by omega)) ?_); intros
  refine hd hK ?_
  clear hHeld hK K
  intro hHeld
  refine tk 6 hHeld ?_
  refine st 7 fun K hK => ?_
  go_simp
  refine hd hK ?_
  clear hHeld hK K
  intro hHeld
  refine dn ?_
  clear hHeld
  go_wp2
  refine ret_bx rfl Tryz.underlying160 rfl (by kernel_rfl) rfl rfl rfl ?_
  exact FhVRet.fin (by simp) (by omega) (by simp) (by omega) (by simp) (by omega) rfl (by omega) rfl (by omega)
end Go.Proofs.YtdlnoeegboapkaaGreatDoor

/- Lists of segments written; ring.Edges. printed by a small program (mkrg13.py). -/
namespace Go.Proofs.YtdlnoeegboapkaaGreatDoor
open Go.RowKit
set_option maxRecDepth 100000
set_option maxHeartbeats 40000000
set_option synthInstance.maxSize 100000
set_option synthInstance.maxHeartbeats 1000000
set_option linter.unusedVariables false

/-- A load, by what is known of it. -/
theorem step_load {W : World} {ops : Array Oper} {rest : List Oper} {o : Oper} {a : Act} {Q : Exit → Act → World → Prop} {t : TypeId} {x : Operand} {ad : Addr} {v : Value} (hg : o.guard = none) (hop : o.op = .load t x)
    (hx : a.eval x = .pointer (some ad)) (hl : (loadVar t ad).run Tryz.prog W = .ok v W) (hK : wpList Tryz.prog ops Q rest (a.put o.dst v) W) : wpList Tryz.prog ops Q (o :: rest) a W := by
  refine wpList_plain hg fun K hKK => ?_
  unfold Oper.wp execOp
  simp [hop, hx, Instr.loadAt, Instr.sureAddr, hl, Result.andThen]
  exact hKK _ _ hK
theorem writeFrsC {w w0 : World} {a : Option Addr} {n c : Nat} {V : List GV} {L : List FG} {k : Nat} [hs : Sl w (.slice a n c) V.length (rowG V) w0] [hp : FsG w V L k] (b : k ≤ 300000) (hV : V.length ≤ 900000) :
    Calls Tryz.prog 89 #[.slice a n c] w (FsHRet w L k) := by
  obtain rfl := hs.len
  have hlen := Lib.hid hp.len
  go_enter Tryz.func89, Tryz.ntmps89
  go_wp2_with fail
  go_loopw [8, 3] (fun i o wr => ∃ (q : Nat) (U : List HV), i = .int .i64 (q : Int) ∧ q ≤ V.length ∧ Rn wr o 160 14 U.length (rowH U) w.heap.size wr ∧ Hid (U.length = q) ∧ FsH wr U (L.take q) k ∧ Kp w wr) (fun i _ _ => V.length - (intOf i).toNat)
  case atStart => exact ⟨0, [], rfl, by omega, Rn.nil (Nat.le_refl _), Lib.hid rfl, FsH.nil, inferInstance⟩
  case round =>
    obtain ⟨q, U, rfl, hq, i1, hU, i2, i3⟩ := hrel
    have kw := Kp1.mk i3.out
    by_cases hlt : q < V.length
    · obtain ⟨g, rfl, hA⟩ := hs.form (by omega)
      have hlt' : (q : Int) < V.length := by omega
      have lq : LtN q V.length := ⟨hlt⟩
      have ew : IntKind.i64.wrap ((q : Int) + 1) = (q : Int) + 1 := wr_in (by omega) (by omega)
      go_wp2_with (first
        | (with_reducible refine step_load (t := 182) (x := .tmp 10) rfl rfl rfl (load_G (k := q) hlt) ?_)
        | (go_at_call 150; (with_reducible refine Calls.cFhV (frApiC (k := k) (by omega)) ?_); intro w1 _ gx ax lx cx gy ay ly cy gz az lz cz gu au lu cu aau llu ccu gv av lv cv aav llv ccv _ _ _ _ _)
        | (at_builtin; go_loud (refine app_rn1 (v := u3) rfl (.tmp 12) (.tmp 15) 73 rfl Tryz.underlying73 info_hr rfl (by decide) (by decide) (by decide) inferInstance rfl (rowH_nd _) rfl (by rfl) ?h1 ?h2 (by first | omega | (have := hU.out; omega)) ?_); (case h1 => exact HV.one ⟨_, _, _, _, _, _, _, _, _, _, _, _, _, _, _, _, _, _, _, _, _, _, _, _, _, _⟩); (case h2 => exact HV.nd ⟨_, _, _, _, _, _, _, _, _, _, _, _, _, _, _, _, _, _, _, _, _, _, _, _, _, _⟩); intro g2 c2 w2 i9 i10 i11))
      go_roundw
      case rel => exact ⟨q + 1, U ++ [⟨gx, ax, lx, cx, gy, ay, ly, cy, gz, az, lz, cz, gu, au, lu, cu, aau, llu, ccu, gv, av, lv, cv, aav, llv, ccv⟩], by go_num, by omega, Rn.cast2 (inferInstance) (by simp) (by rw [rowH_snoc]; rfl), Lib.hid (by rw [List.length_append, hU.out]; rfl), by rw [take_fg (by have := hlen.out; omega)]; exact FsH.add (Nat.le_refl _) (Nat.le_refl _) (Nat.le_refl _) (Nat.le_refl _) (Nat.le_refl _), inferInstance⟩
      case measure => simp [intOf]; omega
    · obtain rfl : q = V.length := by omega
      rw [List.take_of_length_le (by have := hlen.out; omega)] at i2
      obtain ⟨a3, c3, rfl⟩ := i1.slice
      go_wp2_with fail
      go_ret
      exact FsHRet.fin (V := U) rfl (by omega)
theorem edgesOk {w w0 : World} {a : Option Addr} {n c : Nat} {V : List AV} {L : List (Rat × Rat)} {k : Nat} [hs : Sl w (.slice a n c) V.length (rowA V) w0] [hp : PsA w V L k] (b : k ≤ 8) (hV : V.length ≤ 1000) (hR : RingOK L) :
    Calls Tryz.prog 33 #[.slice a n c] w (FsHEr w (edgesL L) (482 * k + 2194)) := by
  have hpos := hR.pos
  have hE := hR.edge
  go_enter Tryz.func33, Tryz.ntmps33
  go_wp2_with fail
  with_reducible refine Calls.cPsFEr (ringOfOk (by omega) (by omega) hR) ?_
  intro w1 _ a1 c1 V1 _ ip1
  have hV1 : V1.length ≤ 1000 := by rw [ip1.len, ← PsA.len (W := w) (V := V)]; exact hV
  have hV2 : 0 < V1.length := by rw [ip1.len]; exact hpos
  go_wp2_with fail
  with_reducible refine Calls.cFsGRet (frsC (V := V1) (by omega) hV1 hV2 hE) ?_
  intro w2 _ a2 c2 V2 _ ip2
  have hV3 : V2.length ≤ 1000 := by rw [ip2.len, edgesL, List.length_map, List.length_range, ← ip1.len]; exact hV1
  go_wp2_with fail
  with_reducible refine Calls.cFsHRet (writeFrsC (V := V2) (by omega) (by omega)) ?_
  intro w3 _ a3 c3 V3 _ ip3
  go_wp2_with fail
  go_ret2
  exact FsHEr.fin (V := V3) rfl (by omega)
end Go.Proofs.YtdlnoeegboapkaaGreatDoor

/- The reference's functions of one line. printed by a small program (mkln9.py). -/
namespace Go.Proofs.YtdlnoeegboapkaaGreatDoor
open Go.RowKit
set_option maxRecDepth 100000
set_option maxHeartbeats 40000000
set_option synthInstance.maxSize 100000
set_option synthInstance.maxHeartbeats 1000000
set_option linter.unusedVariables false
set_option linter.unusedSimpArgs false


theorem over_val {x y : Rat} {g : Bool} (hg : g = decide (y.num < 0)) (hy : y ≠ 0) : mkRat (x.num * sgn g y.den) (x.den * y.num.natAbs) = x / y := by
  rw [Rat.div_def, ← inv_sgn hy, hg]
  conv => rhs; rw [← Rat.mkRat_self x]
  rw [Rat.mkRat_mul_mkRat]
theorem dd_eq (a b : Rat) : b * b + -a * -a = a * a + b * b := by grind
theorem dd_ne {a b c : Int} (h : LnV a b c) : Hid (((b : Int) : Rat) * ((b : Int) : Rat) + -((a : Int) : Rat) * -((a : Int) : Rat) ≠ 0) := by
  show _ ≠ _
  rw [dd_eq]; exact sq_ne h.1
theorem base_x {a b c : Rat} : a * (-c / (a * a + b * b)) = -(c / (b * b + -a * -a)) * a := by
  rw [dd_eq, Rat.div_def, Rat.div_def]; grind
theorem base_y {a b c : Rat} : b * (-c / (a * a + b * b)) = -(c / (b * b + -a * -a)) * b := by
  rw [dd_eq, Rat.div_def, Rat.div_def]; grind
theorem at_x {a b c t : Rat} : a * (-c / (a * a + b * b)) + b * t = -(c / (b * b + -a * -a)) * a + t * b := by
  rw [base_x (b := b)]; grind
theorem at_y {a b c t : Rat} : b * (-c / (a * a + b * b)) + -a * t = -(c / (b * b + -a * -a)) * b + t * -a := by
  rw [base_y (a := a)]; grind
theorem par_x {a b x y : Rat} : (b * x + -a * y) / (b * b + -a * -a) = (x * b + y * -a) / (b * b + -a * -a) := by
  rw [show b * x + -a * y = x * b + y * -a by grind]
theorem numOverC {w : World} {g1 g2 : Bool} {a1 aa1 a2 aa2 : Option Addr} {l1 c1 ll1 cc1 l2 c2 ll2 cc2 k1 k2 : Nat} {x y : Rat} [h1 : CQ w (.agg #[.bool g1, .slice a1 l1 c1, .slice aa1 ll1 cc1]) x k1] [h2 : CQ w (.agg #[.bool g2, .slice a2 l2 c2, .slice aa2 ll2 cc2]) y k2] (b : k1 ≤ 30000 ∧ k2 ≤ 30000) (hy : y ≠ 0) :
    Calls Tryz.prog 162 #[.agg #[.bool g1, .slice a1 l1 c1, .slice aa1 ll1 cc1], .agg #[.bool g2, .slice a2 l2 c2, .slice aa2 ll2 cc2]] w (CQRet w (x / y) (k1 + k2 + 8)) := by
  have i1 := h1.num
  have i2 := h2.num
  have hg := (zz_of i2).1
  have i3 : CN w (.slice a2 l2 c2) y.num.natAbs k2 := ⟨(zz_of i2).2⟩
  have HE := Lib.hid (over_val (x := x) hg hy)
  have hm : x.den * y.num.natAbs ≠ 0 := Nat.mul_ne_zero x.den_nz (fun h => hy (Rat.num_eq_zero.1 (Int.natAbs_eq_zero.1 h)))
  clear hg hy
  go_enter Tryz.func162, Tryz.ntmps162
  go_upto_region 1 with fail
  go_cut [5] from 6 to 14 (fun tv wx => ∃ (b : Nat) (g : Bool) (a : Option Addr) (l c : Nat), tv = .pointer (some ⟨b, 0, none⟩) ∧ Bx wx b 43 [.bool g, .slice a l c] ∧ CZ wx (.agg #[.bool g, .slice a l c]) (x.num * sgn g2 y.den) (k1 + k2 + 2) ∧ NeN b (w.heap.size + 1 + 1) ∧ Kp1 (((w.alloc (.cells #[.bool g1, .slice a1 l1 c1, .slice aa1 ll1 cc1] 45)).alloc (.cells #[.bool g2, .slice a2 l2 c2, .slice aa2 ll2 cc2] 45)).alloc (.cells #[.bool false, .slice none 0 0, .slice none 0 0] 45)) wx)
  case first =>
    refine rgn [] [] fun hHeld => ?_
    refine tk 0 hHeld ?_
    refine tk 1 hHeld ?_
    refine tk 2 hHeld ?_
    refine tk 3 hHeld ?_
    refine tk 4 hHeld ?_
    refine tk 5 hHeld ?_
    refine wpAnyT_ready (rs := [6, 9]) (by kernel_rfl) (by simp) ?_
    refine AllT.cons (by simp; rfl) (fun K hK => ?_) (AllT.cons (by simp; rfl) (fun K hK => ?_) AllT.nil)
    go_simp
    (with_reducible refine Calls.cN (numDenC) ?_); intros
    refine hd hK ?_
    clear hHeld hK K
    intro hHeld
    refine wpAnyT_ready (rs := [7, 9]) (by kernel_rfl) (by simp) ?_
    refine AllT.cons (by simp; rfl) (fun K hK => ?_) (AllT.cons (by simp; rfl) (fun K hK => ?_) AllT.nil)
    go_simp
    (with_reducible refine Calls.cSg (makeC) ?_); intros
    refine hd hK ?_
    clear hHeld hK K
    intro hHeld
    refine wpAnyT_ready (rs := [8, 9]) (by kernel_rfl) (by simp) ?_
    refine AllT.cons (by simp; rfl) (fun K hK => ?_) (AllT.cons (by simp; rfl) (fun K hK => ?_) AllT.nil)
    go_simp
    (with_reducible refine Calls.cZ (numMulC (by omega)) ?_); intros
    refine hd hK ?_
    clear hHeld hK K
    intro hHeld
    refine st 9 fun K hK => ?_
    go_simp
    refine hd hK ?_
    clear hHeld hK K
    intro hHeld
    refine st 10 fun K hK => ?_
    go_simp
    refine hd hK ?_
    clear hHeld hK K
    intro hHeld
    refine dn ?_
    clear hHeld
    go_wp2_with fail
    go_meet
    exact ⟨_, _, _, _, _, rfl, inferInstance, CZ.cast inferInstance rfl (by omega), inferInstance, ⟨(inferInstance : Kp (((w.alloc (.cells #[.bool g1, .slice a1 l1 c1, .slice aa1 ll1 cc1] 45)).alloc (.cells #[.bool g2, .slice a2 l2 c2, .slice aa2 ll2 cc2] 45)).alloc (.cells #[.bool false, .slice none 0 0, .slice none 0 0] 45)) _).out⟩⟩
    go_simp
    refine hd hK ?_
    clear hHeld hK K
    intro hHeld
    refine st 8 fun K hK => ?_
    go_simp
    (with_reducible refine Calls.cZ (numMulC (by omega)) ?_); intros
    refine hd hK ?_
    clear hHeld hK K
    intro hHeld
    refine st 10 fun K hK => ?_
    go_simp
    refine hd hK ?_
    clear hHeld hK K
    intro hHeld
    refine dn ?_
    clear hHeld
    go_wp2_with fail
    go_meet
    exact ⟨_, _, _, _, _, rfl, inferInstance, CZ.cast inferInstance rfl (by omega), inferInstance, ⟨(inferInstance : Kp (((w.alloc (.cells #[.bool g1, .slice a1 l1 c1, .slice aa1 ll1 cc1] 45)).alloc (.cells #[.bool g2, .slice a2 l2 c2, .slice aa2 ll2 cc2] 45)).alloc (.cells #[.bool false, .slice none 0 0, .slice none 0 0] 45)) _).out⟩⟩
    go_simp
    refine hd hK ?_
    clear hHeld hK K
    intro hHeld
    refine st 7 fun K hK => ?_
    go_simp
    (with_reducible refine Calls.cSg (makeC) ?_); intros
    refine hd hK ?_
    clear hHeld hK K
    intro hHeld
    refine st 8 fun K hK => ?_
    go_simp
    (with_reducible refine Calls.cZ (numMulC (by omega)) ?_); intros
    refine hd hK ?_
    clear hHeld hK K
    intro hHeld
    refine st 10 fun K hK => ?_
    go_simp
    refine hd hK ?_
    clear hHeld hK K
    intro hHeld
    refine dn ?_
    clear hHeld
    go_wp2_with fail
    go_meet
    exact ⟨_, _, _, _, _, rfl, inferInstance, CZ.cast inferInstance rfl (by omega), inferInstance, ⟨(inferInstance : Kp (((w.alloc (.cells #[.bool g1, .slice a1 l1 c1, .slice aa1 ll1 cc1] 45)).alloc (.cells #[.bool g2, .slice a2 l2 c2, .slice aa2 ll2 cc2] 45)).alloc (.cells #[.bool false, .slice none 0 0, .slice none 0 0] 45)) _).out⟩⟩
    go_simp
    refine hd hK ?_
    clear hHeld hK K
    intro hHeld
    refine st 6 fun K hK => ?_
    go_simp
    (with_reducible refine Calls.cN (numDenC) ?_); intros
    refine hd hK ?_
    clear hHeld hK K
    intro hHeld
    refine st 7 fun K hK => ?_
    go_simp
    (with_reducible refine Calls.cSg (makeC) ?_); intros
    refine hd hK ?_
    clear hHeld hK K
    intro hHeld
    refine st 8 fun K hK => ?_
    go_simp
    (with_reducible refine Calls.cZ (numMulC (by omega)) ?_); intros
    refine hd hK ?_
    clear hHeld hK K
    intro hHeld
    refine st 10 fun K hK => ?_
    go_simp
    refine hd hK ?_
    clear hHeld hK K
    intro hHeld
    refine dn ?_
    clear hHeld
    go_wp2_with fail
    go_meet
    exact ⟨_, _, _, _, _, rfl, inferInstance, CZ.cast inferInstance rfl (by omega), inferInstance, ⟨(inferInstance : Kp (((w.alloc (.cells #[.bool g1, .slice a1 l1 c1, .slice aa1 ll1 cc1] 45)).alloc (.cells #[.bool g2, .slice a2 l2 c2, .slice aa2 ll2 cc2] 45)).alloc (.cells #[.bool false, .slice none 0 0, .slice none 0 0] 45)) _).out⟩⟩
  case rest =>
    obtain ⟨b0, g, a, l, c, rfl, j1, j2, j4, j3⟩ := hcut
    go_wp2_with fail
    refine rgn [w.heap.size + 1 + 1] [] fun hHeld => ?_
    refine tk 0 hHeld ?_
    refine tk 1 hHeld ?_
    refine tk 3 hHeld ?_
    refine tk 4 hHeld ?_
    refine tk 5 hHeld ?_
    refine st 2 fun K hK => ?_
    go_simp
    (with_reducible refine Calls.cN (numDenC) ?_); intros
    refine hd hK ?_
    clear hHeld hK K
    intro hHeld
    refine st 6 fun K hK => ?_
    go_simp
    (with_reducible refine Calls.cN (numProductC (by omega)) ?_); intros
    refine hd hK ?_
    clear hHeld hK K
    intro hHeld
    refine st 7 fun K hK => ?_
    go_simp
    (with_reducible refine Calls.cQ (numFracC (by omega) hm) ?_); intros
    refine hd hK ?_
    clear hHeld hK K
    intro hHeld
    refine st 8 fun K hK => ?_
    go_simp
    refine hd hK ?_
    clear hHeld hK K
    intro hHeld
    refine dn ?_
    clear hHeld
    go_wp2
    refine ret_bx rfl Tryz.underlying45 rfl (by kernel_rfl) rfl rfl rfl ?_
    exact CQRet.fin HE.out (by omega)

theorem refqC {w : World} {g1 : Bool} {a1 : Option Addr} {l1 : Nat} {c1 : Nat} {a : Int} {k1 : Nat} [h1 : CZ w (.agg #[.bool g1, .slice a1 l1 c1]) a k1] :
    Calls Tryz.prog 243 #[.agg #[.bool g1, .slice a1 l1 c1]] w (CQRet w (((a : Int) : Rat)) (k1)) := by
  go_enter Tryz.func243, Tryz.ntmps243
  go_wp2_with fail
  skip
  go_wp2
  refine ret_bx rfl Tryz.underlying45 rfl (by kernel_rfl) rfl rfl rfl ?_
  exact CQRet.fin rfl (by omega)

theorem refValueC {w : World} {g1x g1y g1z g2x g2y : Bool} {a1x a1y a1z a2x aa2x a2y aa2y : Option Addr} {l1x c1x l1y c1y l1z c1z l2x c2x ll2x cc2x l2y c2y ll2y cc2y k1x k1y k1z k2x k2y : Nat} {la lb lc : Int} {x y : Rat} [h1x : CZ w (.agg #[.bool g1x, .slice a1x l1x c1x]) la k1x] [h1y : CZ w (.agg #[.bool g1y, .slice a1y l1y c1y]) lb k1y] [h1z : CZ w (.agg #[.bool g1z, .slice a1z l1z c1z]) lc k1z] [h2x : CQ w (.agg #[.bool g2x, .slice a2x l2x c2x, .slice aa2x ll2x cc2x]) x k2x] [h2y : CQ w (.agg #[.bool g2y, .slice a2y l2y c2y, .slice aa2y ll2y cc2y]) y k2y] (b : k1x ≤ 9000 ∧ k1y ≤ 9000 ∧ k1z ≤ 9000 ∧ k2x ≤ 9000 ∧ k2y ≤ 9000) :
    Calls Tryz.prog 279 #[.agg #[.bool g1x, .slice a1x l1x c1x, .bool g1y, .slice a1y l1y c1y, .bool g1z, .slice a1z l1z c1z], .agg #[.bool g2x, .slice a2x l2x c2x, .slice aa2x ll2x cc2x, .bool g2y, .slice a2y l2y c2y, .slice aa2y ll2y cc2y]] w (CQRet w (((la : Int) : Rat) * x + ((lb : Int) : Rat) * y + ((lc : Int) : Rat)) (k1x + k1y + k1z + k2x + k2y + 30)) := by
  go_enter Tryz.func279, Tryz.ntmps279
  go_wp2_with fail
  refine rgn [w.heap.size + 1 + 1] [] fun hHeld => ?_
  refine tk 0 hHeld ?_
  refine tk 1 hHeld ?_
  refine tk 3 hHeld ?_
  refine tk 4 hHeld ?_
  refine tk 6 hHeld ?_
  refine tk 7 hHeld ?_
  refine tk 9 hHeld ?_
  refine tk 10 hHeld ?_
  refine tk 13 hHeld ?_
  refine tk 14 hHeld ?_
  refine st 2 fun K hK => ?_
  go_simp
  (with_reducible refine Calls.cQ (refqC) ?_); intros
  refine hd hK ?_
  clear hHeld hK K
  intro hHeld
  refine st 5 fun K hK => ?_
  go_simp
  (with_reducible refine Calls.cQ (numTimesC (by omega)) ?_); intros
  refine hd hK ?_
  clear hHeld hK K
  intro hHeld
  refine st 8 fun K hK => ?_
  go_simp
  (with_reducible refine Calls.cQ (refqC) ?_); intros
  refine hd hK ?_
  clear hHeld hK K
  intro hHeld
  refine st 11 fun K hK => ?_
  go_simp
  (with_reducible refine Calls.cQ (numTimesC (by omega)) ?_); intros
  refine hd hK ?_
  clear hHeld hK K
  intro hHeld
  refine st 12 fun K hK => ?_
  go_simp
  (with_reducible refine Calls.cQ (numPlusC (by omega)) ?_); intros
  refine hd hK ?_
  clear hHeld hK K
  intro hHeld
  refine st 15 fun K hK => ?_
  go_simp
  (with_reducible refine Calls.cQ (refqC) ?_); intros
  refine hd hK ?_
  clear hHeld hK K
  intro hHeld
  refine st 16 fun K hK => ?_
  go_simp
  (with_reducible refine Calls.cQ (numPlusC (by omega)) ?_); intros
  refine hd hK ?_
  clear hHeld hK K
  intro hHeld
  refine st 17 fun K hK => ?_
  go_simp
  refine hd hK ?_
  clear hHeld hK K
  intro hHeld
  refine dn ?_
  clear hHeld
  go_wp2
  refine ret_bx rfl Tryz.underlying45 rfl (by kernel_rfl) rfl rfl rfl ?_
  exact CQRet.fin rfl (by omega)

theorem refSideC {w : World} {g1x g1y g1z g2x g2y : Bool} {a1x a1y a1z a2x aa2x a2y aa2y : Option Addr} {l1x c1x l1y c1y l1z c1z l2x c2x ll2x cc2x l2y c2y ll2y cc2y k1x k1y k1z k2x k2y : Nat} {la lb lc : Int} {x y : Rat} [h1x : CZ w (.agg #[.bool g1x, .slice a1x l1x c1x]) la k1x] [h1y : CZ w (.agg #[.bool g1y, .slice a1y l1y c1y]) lb k1y] [h1z : CZ w (.agg #[.bool g1z, .slice a1z l1z c1z]) lc k1z] [h2x : CQ w (.agg #[.bool g2x, .slice a2x l2x c2x, .slice aa2x ll2x cc2x]) x k2x] [h2y : CQ w (.agg #[.bool g2y, .slice a2y l2y c2y, .slice aa2y ll2y cc2y]) y k2y] (b : k1x ≤ 9000 ∧ k1y ≤ 9000 ∧ k1z ≤ 9000 ∧ k2x ≤ 9000 ∧ k2y ≤ 9000) :
    Calls Tryz.prog 244 #[.agg #[.bool g1x, .slice a1x l1x c1x, .bool g1y, .slice a1y l1y c1y, .bool g1z, .slice a1z l1z c1z], .agg #[.bool g2x, .slice a2x l2x c2x, .slice aa2x ll2x cc2x, .bool g2y, .slice a2y l2y c2y, .slice aa2y ll2y cc2y]] w (fun e w' => e = .returned (.int .i64 (isgn (((la : Int) : Rat) * x + ((lb : Int) : Rat) * y + ((lc : Int) : Rat)).num)) ∧ Below w.heap.size w w') := by
  go_enter Tryz.func244, Tryz.ntmps244
  go_wp2_with (first
    | (go_at_call 279; (with_reducible refine Calls.cQ (refValueC (by omega)) ?_); intros)
    | (go_at_call 54; (with_reducible refine Calls.cE (numSC) ?_); intros))
  go_ret
  exact E.fin rfl

theorem refDirC {w : World} {g1x g1y g1z : Bool} {a1x a1y a1z : Option Addr} {l1x c1x l1y c1y l1z c1z k1x k1y k1z : Nat} {la lb lc : Int} [h1x : CZ w (.agg #[.bool g1x, .slice a1x l1x c1x]) la k1x] [h1y : CZ w (.agg #[.bool g1y, .slice a1y l1y c1y]) lb k1y] [h1z : CZ w (.agg #[.bool g1z, .slice a1z l1z c1z]) lc k1z] (b : k1x ≤ 9000 ∧ k1y ≤ 9000 ∧ k1z ≤ 9000) :
    Calls Tryz.prog 219 #[.agg #[.bool g1x, .slice a1x l1x c1x, .bool g1y, .slice a1y l1y c1y, .bool g1z, .slice a1z l1z c1z]] w (CPQRet w (((lb : Int) : Rat)) (-((la : Int) : Rat)) (max k1x k1y)) := by
  go_enter Tryz.func219, Tryz.ntmps219
  go_wp2_with fail
  refine rgn [w.heap.size + 1] [] fun hHeld => ?_
  refine tk 0 hHeld ?_
  refine tk 1 hHeld ?_
  refine tk 3 hHeld ?_
  refine tk 4 hHeld ?_
  refine st 2 fun K hK => ?_
  go_simp
  (with_reducible refine Calls.cQ (refqC) ?_); intros
  refine hd hK ?_
  clear hHeld hK K
  intro hHeld
  refine st 5 fun K hK => ?_
  go_simp
  (with_reducible refine Calls.cQ (refqC) ?_); intros
  refine hd hK ?_
  clear hHeld hK K
  intro hHeld
  refine st 6 fun K hK => ?_
  go_simp
  (with_reducible refine Calls.cQ (numOppC) ?_); intros
  refine hd hK ?_
  clear hHeld hK K
  intro hHeld
  refine tk 7 hHeld ?_
  refine st 8 fun K hK => ?_
  go_simp
  refine hd hK ?_
  clear hHeld hK K
  intro hHeld
  refine dn ?_
  clear hHeld
  go_wp2
  refine ret_bx rfl Tryz.underlying47 rfl (by kernel_rfl) rfl rfl rfl ?_
  exact CPQRet.fin rfl (by omega) rfl (by omega)

theorem refBaseC {w : World} {g1x g1y g1z : Bool} {a1x a1y a1z : Option Addr} {l1x c1x l1y c1y l1z c1z k1x k1y k1z : Nat} {la lb lc : Int} [h1x : CZ w (.agg #[.bool g1x, .slice a1x l1x c1x]) la k1x] [h1y : CZ w (.agg #[.bool g1y, .slice a1y l1y c1y]) lb k1y] [h1z : CZ w (.agg #[.bool g1z, .slice a1z l1z c1z]) lc k1z] (b : k1x ≤ 5000 ∧ k1y ≤ 5000 ∧ k1z ≤ 5000) (hv : Hid (LnV la lb lc)) :
    Calls Tryz.prog 280 #[.agg #[.bool g1x, .slice a1x l1x c1x, .bool g1y, .slice a1y l1y c1y, .bool g1z, .slice a1z l1z c1z]] w (CPQRet w (-(((lc : Int) : Rat) / (((lb : Int) : Rat) * ((lb : Int) : Rat) + -((la : Int) : Rat) * -((la : Int) : Rat))) * ((la : Int) : Rat)) (-(((lc : Int) : Rat) / (((lb : Int) : Rat) * ((lb : Int) : Rat) + -((la : Int) : Rat) * -((la : Int) : Rat))) * ((lb : Int) : Rat)) (5 * (max k1x k1y) + k1z + 40)) := by
  have HZ := dd_ne hv.out
  go_enter Tryz.func280, Tryz.ntmps280
  go_upto_region 1 with fail
  go_cut [3] from 5 to 6 (fun t wx => ∃ (b3 : Nat) (g1 : Bool) (a1 : Option Addr) (l1 c1 : Nat) (aa1 : Option Addr) (ll1 cc1 : Nat) (g2 : Bool) (a2 : Option Addr) (l2 c2 : Nat) (aa2 : Option Addr) (ll2 cc2 : Nat), t = .pointer (some ⟨b3, 0, none⟩) ∧ Bx wx b3 47 [.bool g1, .slice a1 l1 c1, .slice aa1 ll1 cc1, .bool g2, .slice a2 l2 c2, .slice aa2 ll2 cc2] ∧ CQ wx (.agg #[.bool g1, .slice a1 l1 c1, .slice aa1 ll1 cc1]) (((lb : Int) : Rat)) (max k1x k1y) ∧ CQ wx (.agg #[.bool g2, .slice a2 l2 c2, .slice aa2 ll2 cc2]) (-((la : Int) : Rat)) (max k1x k1y) ∧ Bx wx w.heap.size 163 [.bool g1x, .slice a1x l1x c1x, .bool g1y, .slice a1y l1y c1y, .bool g1z, .slice a1z l1z c1z] ∧ Bx wx (w.heap.size + 1) 47 [.bool false, .slice none 0 0, .slice none 0 0, .bool false, .slice none 0 0, .slice none 0 0] ∧ CZ wx (.agg #[.bool g1x, .slice a1x l1x c1x]) la k1x ∧ CZ wx (.agg #[.bool g1y, .slice a1y l1y c1y]) lb k1y ∧ CZ wx (.agg #[.bool g1z, .slice a1z l1z c1z]) lc k1z ∧ Kp w wx)
  case first =>
    go_wp2_with (first | (go_at_call 219; (with_reducible refine Calls.cPQ (refDirC (by omega)) ?_); intros))
    go_meet
    exact ⟨_, _, _, _, _, _, _, _, _, _, _, _, _, _, _, rfl, inferInstance, CQ.cast inferInstance rfl (by omega), CQ.cast inferInstance rfl (by omega), inferInstance, inferInstance, inferInstance, inferInstance, inferInstance, inferInstance⟩
  case rest =>
   obtain ⟨b3, g1, a1, l1, c1, aa1, ll1, cc1, g2, a2, l2, c2, aa2, ll2, cc2, rfl, i1, i2, i3, i4, i5, i6, i7, i8, i9⟩ := hcut
   go_upto_region 2 with fail
   go_cut [4] from 7 to 14 (fun t wx => ∃ (b4 : Nat) (g : Bool) (a : Option Addr) (l c : Nat) (aa : Option Addr) (ll cc : Nat), t = .pointer (some ⟨b4, 0, none⟩) ∧ Bx wx b4 45 [.bool g, .slice a l c, .slice aa ll cc] ∧ CQ wx (.agg #[.bool g, .slice a l c, .slice aa ll cc]) (-(((lc : Int) : Rat) / (((lb : Int) : Rat) * ((lb : Int) : Rat) + -((la : Int) : Rat) * -((la : Int) : Rat)))) (4 * (max k1x k1y) + k1z + 24) ∧ Kp wc wx)
   case first =>
    refine rgn [] [] fun hHeld => ?_
    refine tk 0 hHeld ?_
    refine tk 1 hHeld ?_
    refine tk 3 hHeld ?_
    refine tk 4 hHeld ?_
    refine wpAnyT_inv [(2, 9), (5, 12), (6, 13), (7, 14), (8, 4)] (fun i => match i with | 2 => [] | 5 => [2] | 6 => [2, 5] | 7 => [6] | 8 => [] | _ => []) [phiQ (((lc : Int) : Rat)) k1z, phiQ (((lb : Int) : Rat) * ((lb : Int) : Rat) + -((la : Int) : Rat) * -((la : Int) : Rat)) (4 * (max k1x k1y) + 12), phiQ (((lc : Int) : Rat) / (((lb : Int) : Rat) * ((lb : Int) : Rat) + -((la : Int) : Rat) * -((la : Int) : Rat))) (4 * (max k1x k1y) + k1z + 24), phiQ (-(((lc : Int) : Rat) / (((lb : Int) : Rat) * ((lb : Int) : Rat) + -((la : Int) : Rat) * -((la : Int) : Rat)))) (4 * (max k1x k1y) + k1z + 24), phiB wc 45 [.bool false, .slice none 0 0, .slice none 0 0]] [8] 1 (by rfl) (by decide +kernel) (by decide) (by decide) (by kernel_rfl) ?_ (fun _ _ => Ex.below) hHeld ?_ ?_
    · intro i hi v W h
      simp only [List.mem_cons, List.not_mem_nil, or_false] at hi
      rcases hi with rfl
      all_goals exact phiB.old h
    · intro i hi f W hSw hbw hp
      have kw := Kp1.mk hbw
      have hSx := Ex1.mk hSw
      clear hHeld
      simp only [List.map_cons, List.map_nil, List.mem_cons, List.not_mem_nil, or_false] at hi
      rcases hi with rfl | rfl | rfl | rfl | rfl
      · refine ⟨_, by simp; rfl, fun K' hK => ?_⟩
        clear hp
        simp only [putAll, Act.put, List.setIfInBounds_toArray, List.set_cons_zero, List.set_cons_succ] at hK ⊢
        generalize f 2 = v2 at *
        generalize f 5 = v5 at *
        generalize f 6 = v6 at *
        generalize f 7 = v7 at *
        generalize f 8 = v8 at *
        go_simp
        (with_reducible refine Calls.cQ (refqC) ?_); intros
        refine hK.out _ _ _ rfl (inferInstance : Kp W _).out ?_ ?_
        · exact phiQ.fin rfl (by omega)
        · exact fun h => absurd h (by decide)
      · have h2 : phiQ (((lc : Int) : Rat)) k1z (f 2) W := hp 2 (by decide)
        refine ⟨_, by simp; rfl, fun K' hK => ?_⟩
        clear hp
        simp only [putAll, Act.put, List.setIfInBounds_toArray, List.set_cons_zero, List.set_cons_succ] at hK ⊢
        generalize f 2 = v2 at *
        generalize f 5 = v5 at *
        generalize f 6 = v6 at *
        generalize f 7 = v7 at *
        generalize f 8 = v8 at *
        obtain ⟨g2, a2, l2, c2, aa2, ll2, cc2, rfl, i2⟩ := h2
        go_simp
        (with_reducible refine Calls.cQ (refDotC (by omega)) ?_); intros
        refine hK.out _ _ _ rfl (inferInstance : Kp W _).out ?_ ?_
        · exact phiQ.fin rfl (by omega)
        · exact fun h => absurd h (by decide)
      · have h2 : phiQ (((lc : Int) : Rat)) k1z (f 2) W := hp 2 (by decide)
        have h5 : phiQ (((lb : Int) : Rat) * ((lb : Int) : Rat) + -((la : Int) : Rat) * -((la : Int) : Rat)) (4 * (max k1x k1y) + 12) (f 5) W := hp 5 (by decide)
        refine ⟨_, by simp; rfl, fun K' hK => ?_⟩
        clear hp
        simp only [putAll, Act.put, List.setIfInBounds_toArray, List.set_cons_zero, List.set_cons_succ] at hK ⊢
        generalize f 2 = v2 at *
        generalize f 5 = v5 at *
        generalize f 6 = v6 at *
        generalize f 7 = v7 at *
        generalize f 8 = v8 at *
        obtain ⟨g2, a2, l2, c2, aa2, ll2, cc2, rfl, i2⟩ := h2
        obtain ⟨g5, a5, l5, c5, aa5, ll5, cc5, rfl, i5⟩ := h5
        go_simp
        (with_reducible refine Calls.cQ (numOverC (by omega) HZ.out) ?_); intros
        refine hK.out _ _ _ rfl (inferInstance : Kp W _).out ?_ ?_
        · exact phiQ.fin rfl (by omega)
        · exact fun h => absurd h (by decide)
      · have h6 : phiQ (((lc : Int) : Rat) / (((lb : Int) : Rat) * ((lb : Int) : Rat) + -((la : Int) : Rat) * -((la : Int) : Rat))) (4 * (max k1x k1y) + k1z + 24) (f 6) W := hp 6 (by decide)
        refine ⟨_, by simp; rfl, fun K' hK => ?_⟩
        clear hp
        simp only [putAll, Act.put, List.setIfInBounds_toArray, List.set_cons_zero, List.set_cons_succ] at hK ⊢
        generalize f 2 = v2 at *
        generalize f 5 = v5 at *
        generalize f 6 = v6 at *
        generalize f 7 = v7 at *
        generalize f 8 = v8 at *
        obtain ⟨g6, a6, l6, c6, aa6, ll6, cc6, rfl, i6⟩ := h6
        go_simp
        (with_reducible refine Calls.cQ (numOppC) ?_); intros
        refine hK.out _ _ _ rfl (inferInstance : Kp W _).out ?_ ?_
        · exact phiQ.fin rfl (by omega)
        · exact fun h => absurd h (by decide)
      · refine ⟨_, by simp; rfl, fun K' hK => ?_⟩
        clear hp
        simp only [putAll, Act.put, List.setIfInBounds_toArray, List.set_cons_zero, List.set_cons_succ] at hK ⊢
        generalize f 2 = v2 at *
        generalize f 5 = v5 at *
        generalize f 6 = v6 at *
        generalize f 7 = v7 at *
        generalize f 8 = v8 at *
        go_simp
        refine hK.out _ _ _ rfl (inferInstance : Kp W _).out ?_ ?_
        · exact phiB.fin
        · exact fun _ => ⟨_, rfl, Nat.le_refl _⟩
    · intro f W hSw hbw hf hne
      have kw := Kp1.mk hbw
      have hSx := Ex1.mk hSw
      clear hHeld
      have h2 : phiQ (((lc : Int) : Rat)) k1z (f 2) W := hf 2 (by decide)
      have h5 : phiQ (((lb : Int) : Rat) * ((lb : Int) : Rat) + -((la : Int) : Rat) * -((la : Int) : Rat)) (4 * (max k1x k1y) + 12) (f 5) W := hf 5 (by decide)
      have h6 : phiQ (((lc : Int) : Rat) / (((lb : Int) : Rat) * ((lb : Int) : Rat) + -((la : Int) : Rat) * -((la : Int) : Rat))) (4 * (max k1x k1y) + k1z + 24) (f 6) W := hf 6 (by decide)
      have h7 : phiQ (-(((lc : Int) : Rat) / (((lb : Int) : Rat) * ((lb : Int) : Rat) + -((la : Int) : Rat) * -((la : Int) : Rat)))) (4 * (max k1x k1y) + k1z + 24) (f 7) W := hf 7 (by decide)
      have h8 : phiB wc 45 [.bool false, .slice none 0 0, .slice none 0 0] (f 8) W := hf 8 (by decide)
      clear hf hne
      simp only [putAll, lset, List.map_cons, List.map_nil, Act.put, List.setIfInBounds_toArray, List.set_cons_zero, List.set_cons_succ]
      generalize f 2 = v2 at *
      generalize f 5 = v5 at *
      generalize f 6 = v6 at *
      generalize f 7 = v7 at *
      generalize f 8 = v8 at *
      obtain ⟨g2, a2, l2, c2, aa2, ll2, cc2, rfl, i2⟩ := h2
      obtain ⟨g5, a5, l5, c5, aa5, ll5, cc5, rfl, i5⟩ := h5
      obtain ⟨g6, a6, l6, c6, aa6, ll6, cc6, rfl, i6⟩ := h6
      obtain ⟨g7, a7, l7, c7, aa7, ll7, cc7, rfl, i7⟩ := h7
      obtain ⟨b8, rfl, i8, j8, k8⟩ := h8
      have hHeld := hSw
      refine st 9 fun K hK => ?_
      go_simp
      refine hd hK ?_
      clear hHeld hK K
      intro hHeld
      refine dn ?_
      clear hHeld
      go_wp2_with fail
      go_meet
      exact ⟨_, _, _, _, _, _, _, _, rfl, inferInstance, inferInstance, inferInstance⟩
   case rest =>
    obtain ⟨b4, g, a, l, c, aa, ll, cc, rfl, m1, m2, ⟨m3⟩⟩ := hcut
    have m5 := Kp1.mk m3
    have m6 : Kp w wc := inferInstance
    go_wp2_with fail
    refine rgn [] [11] fun hHeld => ?_
    refine tk 0 hHeld ?_
    refine tk 1 hHeld ?_
    refine tk 2 hHeld ?_
    refine tk 5 hHeld ?_
    refine tk 6 hHeld ?_
    refine tk 7 hHeld ?_
    refine st 3 fun K hK => ?_
    go_simp
    (with_reducible refine Calls.cQ (refqC) ?_); intros
    refine hd hK ?_
    clear hHeld hK K
    intro hHeld
    refine st 4 fun K hK => ?_
    go_simp
    (with_reducible refine Calls.cQ (numTimesC (by omega)) ?_); intros
    refine hd hK ?_
    clear hHeld hK K
    intro hHeld
    refine st 8 fun K hK => ?_
    go_simp
    (with_reducible refine Calls.cQ (refqC) ?_); intros
    refine hd hK ?_
    clear hHeld hK K
    intro hHeld
    refine st 9 fun K hK => ?_
    go_simp
    (with_reducible refine Calls.cQ (numTimesC (by omega)) ?_); intros
    refine hd hK ?_
    clear hHeld hK K
    intro hHeld
    refine tk 10 hHeld ?_
    refine st 11 fun K hK => ?_
    go_simp
    refine hdT hK ?_
    clear hK K
    refine dn ?_
    clear hHeld
    go_wp2_with fail
    refine ret_bx rfl Tryz.underlying47 rfl (by kernel_rfl) rfl rfl rfl ?_
    exact CPQRet.fin rfl (by omega) rfl (by omega)

theorem refPAddB {w : World} {g1x g1y g2 g3x g3y : Bool} {a1x aa1x a1y aa1y a2 aa2 a3x aa3x a3y aa3y : Option Addr} {l1x c1x ll1x cc1x l1y c1y ll1y cc1y l2 c2 ll2 cc2 l3x c3x ll3x cc3x l3y c3y ll3y cc3y k1x k1y k2 k3x k3y : Nat} {x1 y1 z x2 y2 : Rat} [h1x : CQ w (.agg #[.bool g1x, .slice a1x l1x c1x, .slice aa1x ll1x cc1x]) x1 k1x] [h1y : CQ w (.agg #[.bool g1y, .slice a1y l1y c1y, .slice aa1y ll1y cc1y]) y1 k1y] [h2 : CQ w (.agg #[.bool g2, .slice a2 l2 c2, .slice aa2 ll2 cc2]) z k2] [h3x : CQ w (.agg #[.bool g3x, .slice a3x l3x c3x, .slice aa3x ll3x cc3x]) x2 k3x] [h3y : CQ w (.agg #[.bool g3y, .slice a3y l3y c3y, .slice aa3y ll3y cc3y]) y2 k3y] (b : k1x ≤ 40000 ∧ k1y ≤ 40000 ∧ k2 ≤ 10000 ∧ k3x ≤ 10000 ∧ k3y ≤ 10000) :
    Calls Tryz.prog 82 #[.agg #[.bool g1x, .slice a1x l1x c1x, .slice aa1x ll1x cc1x, .bool g1y, .slice a1y l1y c1y, .slice aa1y ll1y cc1y], .agg #[.bool g2, .slice a2 l2 c2, .slice aa2 ll2 cc2], .agg #[.bool g3x, .slice a3x l3x c3x, .slice aa3x ll3x cc3x, .bool g3y, .slice a3y l3y c3y, .slice aa3y ll3y cc3y]] w (CPQRet w (x1 + z * x2) (y1 + z * y2) (max k1x k1y + k2 + max k3x k3y + 8)) := by
  go_enter Tryz.func82, Tryz.ntmps82
  go_wp2_with fail
  refine rgn [w.heap.size + 1 + 1 + 1] [] fun hHeld => ?_
  refine tk 0 hHeld ?_
  refine tk 1 hHeld ?_
  refine tk 2 hHeld ?_
  refine tk 3 hHeld ?_
  refine tk 4 hHeld ?_
  refine tk 7 hHeld ?_
  refine tk 8 hHeld ?_
  refine tk 9 hHeld ?_
  refine tk 10 hHeld ?_
  refine tk 11 hHeld ?_
  refine st 5 fun K hK => ?_
  go_simp
  (with_reducible refine Calls.cQ (numTimesC (by omega)) ?_); intros
  refine hd hK ?_
  clear hHeld hK K
  intro hHeld
  refine st 6 fun K hK => ?_
  go_simp
  (with_reducible refine Calls.cQ (numPlusC (by omega)) ?_); intros
  refine hd hK ?_
  clear hHeld hK K
  intro hHeld
  refine st 12 fun K hK => ?_
  go_simp
  (with_reducible refine Calls.cQ (numTimesC (by omega)) ?_); intros
  refine hd hK ?_
  clear hHeld hK K
  intro hHeld
  refine st 13 fun K hK => ?_
  go_simp
  (with_reducible refine Calls.cQ (numPlusC (by omega)) ?_); intros
  refine hd hK ?_
  clear hHeld hK K
  intro hHeld
  refine tk 14 hHeld ?_
  refine st 15 fun K hK => ?_
  go_simp
  refine hd hK ?_
  clear hHeld hK K
  intro hHeld
  refine dn ?_
  clear hHeld
  go_wp2
  refine ret_bx rfl Tryz.underlying47 rfl (by kernel_rfl) rfl rfl rfl ?_
  exact CPQRet.fin rfl (by omega) rfl (by omega)

theorem refAtC {w : World} {g1x g1y g1z g2 : Bool} {a1x a1y a1z a2 aa2 : Option Addr} {l1x c1x l1y c1y l1z c1z l2 c2 ll2 cc2 k1x k1y k1z k2 : Nat} {la lb lc : Int} {t : Rat} [h1x : CZ w (.agg #[.bool g1x, .slice a1x l1x c1x]) la k1x] [h1y : CZ w (.agg #[.bool g1y, .slice a1y l1y c1y]) lb k1y] [h1z : CZ w (.agg #[.bool g1z, .slice a1z l1z c1z]) lc k1z] [h2 : CQ w (.agg #[.bool g2, .slice a2 l2 c2, .slice aa2 ll2 cc2]) t k2] (b : k1x ≤ 5000 ∧ k1y ≤ 5000 ∧ k1z ≤ 5000 ∧ k2 ≤ 5000) (hv : Hid (LnV la lb lc)) :
    Calls Tryz.prog 246 #[.agg #[.bool g1x, .slice a1x l1x c1x, .bool g1y, .slice a1y l1y c1y, .bool g1z, .slice a1z l1z c1z], .agg #[.bool g2, .slice a2 l2 c2, .slice aa2 ll2 cc2]] w (CPQRet w (-(((lc : Int) : Rat) / (((lb : Int) : Rat) * ((lb : Int) : Rat) + -((la : Int) : Rat) * -((la : Int) : Rat))) * ((la : Int) : Rat) + t * ((lb : Int) : Rat)) (-(((lc : Int) : Rat) / (((lb : Int) : Rat) * ((lb : Int) : Rat) + -((la : Int) : Rat) * -((la : Int) : Rat))) * ((lb : Int) : Rat) + t * -((la : Int) : Rat)) (6 * (max k1x k1y) + k1z + k2 + 80)) := by
  go_enter Tryz.func246, Tryz.ntmps246
  go_wp2_with fail
  refine rgn [w.heap.size + 1 + 1] [] fun hHeld => ?_
  refine tk 0 hHeld ?_
  refine tk 2 hHeld ?_
  refine tk 3 hHeld ?_
  refine st 1 fun K hK => ?_
  go_simp
  (with_reducible refine Calls.cPQ (refBaseC (by omega) hv) ?_); intros
  refine hd hK ?_
  clear hHeld hK K
  intro hHeld
  refine st 4 fun K hK => ?_
  go_simp
  (with_reducible refine Calls.cPQ (refDirC (by omega)) ?_); intros
  refine hd hK ?_
  clear hHeld hK K
  intro hHeld
  refine st 5 fun K hK => ?_
  go_simp
  (with_reducible refine Calls.cPQ (refPAddB (by omega)) ?_); intros
  refine hd hK ?_
  clear hHeld hK K
  intro hHeld
  refine st 6 fun K hK => ?_
  go_simp
  refine hd hK ?_
  clear hHeld hK K
  intro hHeld
  refine dn ?_
  clear hHeld
  go_wp2_with fail
  refine ret_bx rfl Tryz.underlying47 rfl (by kernel_rfl) rfl rfl rfl ?_
  exact CPQRet.fin rfl (by omega) rfl (by omega)

theorem refParamC {w : World} {g1x g1y g1z g2x g2y : Bool} {a1x a1y a1z a2x aa2x a2y aa2y : Option Addr} {l1x c1x l1y c1y l1z c1z l2x c2x ll2x cc2x l2y c2y ll2y cc2y k1x k1y k1z k2x k2y : Nat} {la lb lc : Int} {x y : Rat} [h1x : CZ w (.agg #[.bool g1x, .slice a1x l1x c1x]) la k1x] [h1y : CZ w (.agg #[.bool g1y, .slice a1y l1y c1y]) lb k1y] [h1z : CZ w (.agg #[.bool g1z, .slice a1z l1z c1z]) lc k1z] [h2x : CQ w (.agg #[.bool g2x, .slice a2x l2x c2x, .slice aa2x ll2x cc2x]) x k2x] [h2y : CQ w (.agg #[.bool g2y, .slice a2y l2y c2y, .slice aa2y ll2y cc2y]) y k2y] (b : k1x ≤ 5000 ∧ k1y ≤ 5000 ∧ k1z ≤ 5000 ∧ k2x ≤ 5000 ∧ k2y ≤ 5000) (hv : Hid (LnV la lb lc)) :
    Calls Tryz.prog 161 #[.agg #[.bool g1x, .slice a1x l1x c1x, .bool g1y, .slice a1y l1y c1y, .bool g1z, .slice a1z l1z c1z], .agg #[.bool g2x, .slice a2x l2x c2x, .slice aa2x ll2x cc2x, .bool g2y, .slice a2y l2y c2y, .slice aa2y ll2y cc2y]] w (CQRet w ((x * ((lb : Int) : Rat) + y * -((la : Int) : Rat)) / (((lb : Int) : Rat) * ((lb : Int) : Rat) + -((la : Int) : Rat) * -((la : Int) : Rat))) (6 * (max k1x k1y) + k2x + k2y + 60)) := by
  have HZ := dd_ne hv.out
  go_enter Tryz.func161, Tryz.ntmps161
  go_wp2_with (first
    | (go_at_call 219; (with_reducible refine Calls.cPQ (refDirC (by omega)) ?_); intros))
  refine rgn [w.heap.size + 1 + 1] [] fun hHeld => ?_
  refine tk 0 hHeld ?_
  refine tk 1 hHeld ?_
  refine tk 3 hHeld ?_
  refine tk 4 hHeld ?_
  refine st 2 fun K hK => ?_
  go_simp
  (with_reducible refine Calls.cQ (refDotC (by omega)) ?_); intros
  refine hd hK ?_
  clear hHeld hK K
  intro hHeld
  refine st 5 fun K hK => ?_
  go_simp
  (with_reducible refine Calls.cQ (refDotC (by omega)) ?_); intros
  refine hd hK ?_
  clear hHeld hK K
  intro hHeld
  refine st 6 fun K hK => ?_
  go_simp
  (with_reducible refine Calls.cQ (numOverC (by omega) HZ.out) ?_); intros
  refine hd hK ?_
  clear hHeld hK K
  intro hHeld
  refine st 7 fun K hK => ?_
  go_simp
  refine hd hK ?_
  clear hHeld hK K
  intro hHeld
  refine dn ?_
  clear hHeld
  go_wp2_with fail
  refine ret_bx rfl Tryz.underlying45 rfl (by kernel_rfl) rfl rfl rfl ?_
  exact CQRet.fin rfl (by omega)

end Go.Proofs.YtdlnoeegboapkaaGreatDoor
