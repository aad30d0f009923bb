/-
  Texts of this claim, joined: Rg3e.
-/
import Derived.Test.YtdlnoeegboapkaaGreatDoorCK
namespace Go.Proofs.YtdlnoeegboapkaaGreatDoor
open Go.RowKit
set_option linter.unusedVariables false
set_option maxHeartbeats 40000000
set_option maxRecDepth 100000
set_option synthInstance.maxHeartbeats 1000000
set_option synthInstance.maxSize 100000
section
attribute [local go_sem] Oper.semAt_some
structure K2 (Br g c : Nat) (V : List FV) (wz : World) (A B : World) : Prop where
  size : A.heap.size ≤ B.heap.size
  bx : Bx A Br 131 [.slice (some ⟨g, 0, none⟩) V.length c] → Bx B Br 131 [.slice (some ⟨g, 0, none⟩) V.length c]
  at' : At A g (rowF V) wz → At B g (rowF V) wz
theorem K2.refl {Br g c : Nat} {V : List FV} {wz A : World} : K2 Br g c V wz A A := ⟨Nat.le_refl _, id, id⟩
theorem K2.trans {Br g c : Nat} {V : List FV} {wz A B C : World} (h : K2 Br g c V wz A B) (k : K2 Br g c V wz B C) : K2 Br g c V wz A C :=
  ⟨Nat.le_trans h.size k.size, fun x => k.bx (h.bx x), fun x => k.at' (h.at' x)⟩
theorem K2.of {Br g c : Nat} {V : List FV} {wz A B : World} (h : Kp A B) : K2 Br g c V wz A B := by
  have k : Kp1 A B := ⟨h.out⟩
  exact ⟨h.out.size, fun x => inferInstance, fun x => inferInstance⟩
theorem K2.put {Br g c : Nat} {V : List FV} {wz w : World} (W : World) (l : Nat) (o o' : Obj) (hl : w.heap.size ≤ l) (h : W.heap[l]? = some o) (h2 : o.isCells = false) (_ : o.isWalk = false) : K2 Br g c V wz W (W.putObj l o') := by
  refine ⟨by simp [World.putObj], fun x => ⟨?_⟩, fun x => ⟨fun j u hu => ?_, x.lt, by simpa [World.putObj] using x.ltW⟩⟩
  · have hne : l ≠ Br := fun e => by subst e; rw [x.out] at h; cases h; cases h2
    simp only [World.putObj, Array.getElem?_setIfInBounds]
    rw [if_neg hne]; exact x.out
  · have h3 := x.out j u hu
    have hne : l ≠ g := fun e => by
      subst e; simp only [World.cell?, h] at h3
      cases o <;> first | exact Bool.noConfusion h2 | (simp at h3; done)
    simp only [World.cell?, World.putObj, Array.getElem?_setIfInBounds] at h3 ⊢
    rw [if_neg hne]; exact h3
theorem edges2_in (n : Nat) (hn : 1 ≤ n) (l Br g c : Nat) (V : List FV) (hV : V.length ≤ 1000000) (wz : World) (J Jx : List (Fin V.length) → World → Prop) (W : World) (hJ : AbidesFrom W.heap.size J)
    (hY : ∀ pre x W1, J pre W1 → pre.length < V.length → YieldAt Fence.wide (n - 1) Tryz.prog l (encE V x) W1 fun e W' =>
      (e = .returned (.bool true) ∧ J (pre ++ [x]) W' ∧ K2 Br g c V wz W1 W') ∨ (e = .returned (.bool false) ∧ Jx (pre ++ [x]) W'))
    [hB : Bx W Br 131 [.slice (some ⟨g, 0, none⟩) V.length c]] [hA : At W g (rowF V) wz] (h0 : J [] W) :
    CallsIn Fence.wide n Tryz.prog 202 #[.func (.yield l) #[] #[], .pointer (some ⟨Br, 0, none⟩)] W fun e W' => (∃ v, e = .returned v) ∧
      ((∃ ys, ys = List.finRange V.length ∧ J ys W') ∨ (∃ pre, pre <+: List.finRange V.length ∧ Jx pre W')) := by
  have hmx : Tryz.prog.follows .mixedOrders = true := by kernel_rfl
  refine callsIn_of_wp Tryz.func202 rfl trivial ?_ rfl
  simp only [Tryz.ntmps202, List.size_toArray, List.length_cons, List.length_nil, Nat.reduceAdd, Nat.reduceSub, Array.replicate_succ, Array.replicate_zero, List.push_toArray, List.append_toArray, List.nil_append, List.cons_append]
  gi_wp2
  gi_loopw [7] (fun i wr => ∃ q : Nat, q ≤ V.length ∧ i = .int .i64 (q : Int) ∧ J ((List.finRange V.length).take q) wr ∧ K2 Br g c V wz W wr) (fun i _ => V.length - (intOf i).toNat)
  case atStart => exact ⟨0, Nat.zero_le _, rfl, by simpa using h0, K2.refl⟩
  case round =>
    obtain ⟨q, hq, rfl, hJs, hnx⟩ := hrel
    by_cases hlt : q < V.length
    · have hlt' : (q : Int) < V.length := by omega
      have i1 := hnx.bx hB
      have i2 := hnx.at' hA
      have ew : IntKind.i64.wrap ((q : Int) + 1) = (q : Int) + 1 := wr_in (by omega) (by omega)
      obtain ⟨m, hm0⟩ : ∃ m, (q + 1) % V.length = m := ⟨_, rfl⟩
      have hm : m < V.length := by rw [← hm0]; exact Nat.mod_lt _ (by omega)
      have hm' : (m : Int) < V.length := (by omega)
      have er : ((q : Int) + 1).tmod (V.length : Int) = (m : Int) := by
        rw [← hm0, show (q : Int) + 1 = ((q + 1 : Nat) : Int) by omega]; exact (Int.ofNat_tmod _ _).symm
      have HM := Lib.hid hm0; clear hm0; have hz : ¬ ((V.length : Int) = 0) := (by omega); have hz2 : ¬ (V.length = 0) := (by omega)
      have hz3 : V ≠ [] := fun e => by rw [e] at hlt; simp at hlt
      gi_wp2
      refine nmreg (fun W4 => Kp wr W4 ∧ Bx W4 wr.heap.size 152 (fv V q).l ∧ Bx W4 Br 131 [.slice (some ⟨g, 0, none⟩) V.length c] ∧ At W4 g (rowF V) wz) ⟨inferInstance, Bx.re rfl, inferInstance, inferInstance⟩ ?_
      intro W4 ⟨k1, k2, k3, k4⟩
      have hJ4 := hJ _ _ W4.drew none hJs (below_gb (inferInstance : Kp wr W4.drew).out) (fun r e => by cases e)
      obtain ⟨fn, tmps, assign, body, hy, hR⟩ := hY _ ⟨q, hlt⟩ _ hJ4 (by simp; omega)
      have hR' := hR.mono (R' := fun e W' => ∃ b : Bool, e = .returned (.bool b) ∧ (b = true → J ((List.finRange V.length).take (q + 1)) W' ∧ K2 Br g c V wz W4.drew W') ∧ (b = false → Jx ((List.finRange V.length).take (q + 1)) W')) (by
        rintro e W' (⟨h1, h2, h3⟩ | ⟨h1, h2⟩)
        · exact ⟨true, h1, fun _ => ⟨(by rw [upto_succ hlt]; exact h2), h3⟩, fun h => (by cases h)⟩
        · exact ⟨false, h1, fun h => (by cases h), fun _ => (by rw [upto_succ hlt]; exact h2)⟩)
      clear hR
      dsimp only [encE, edL] at hy
      rw [HM.out] at hy; simp only [FV.l] at k2; clear hY hJ
      gi_region_with_o (refine hR'.mono ?_; rintro e W5 ⟨b, rfl, hb1, hb2⟩)
      all_goals
        cases b with
        | true =>
          obtain ⟨hJ5, hk5⟩ := hb1 rfl
          have hk6 : K2 Br g c V wz wr W5 := (K2.of (inferInstance : Kp wr W4.drew)).trans hk5
          gi_wp2
          go_roundw
          case rel => exact ⟨q + 1, by omega, by go_num, hJ5, hnx.trans hk6⟩
          case measure => simp [intOf]; omega
        | false =>
          have hx5 := hb2 rfl
          gi_wp2
          refine bodyPost_ret (results_none rfl _ _ _) rfl ?_
          exact ⟨⟨_, rfl⟩, .inr ⟨_, List.take_prefix _ _, hx5⟩⟩
    · obtain rfl : q = V.length := by omega
      gi_wp2
      go_end0
      exact ⟨⟨_, rfl⟩, .inl ⟨_, rfl, by rw [List.take_of_length_le (by simp)] at hJs; exact hJs⟩⟩
theorem edges_stops2 (n : Nat) (hn : 1 ≤ n) (Br g c : Nat) (V : List FV) (hV : V.length ≤ 1000000) (w wz : World) [hB : Bx w Br 131 [.slice (some ⟨g, 0, none⟩) V.length c]] [hA : At w g (rowF V) wz] :
    SeqStopsK Fence.wide n Tryz.prog 202 #[.pointer (some ⟨Br, 0, none⟩)] (encE V) (K2 Br g c V wz) (fun ys => ys = List.finRange V.length) (fun pre => pre <+: List.finRange V.length) V.length w := fun l J Jx W hW hJ _ hY h0 => by
  have kW : Kp1 w W := ⟨hW⟩
  exact edges2_in n hn l Br g c V hV wz J Jx W hJ hY h0
theorem range_edges2 {n : Nat} {Q : Exit → Act → World → Prop} {w : World} (wz : World) {go_ : Operand} {ps : Array Tmp} {assign body : Code} {Ts : Array Value} {Br g c : Nat} {V : List FV} (hn : 3 ≤ n) (hg : Act.eval { tmps := Ts, defers := [] } go_ = .func (.func 202) #[] #[.pointer (some ⟨Br, 0, none⟩)]) (hV : V.length ≤ 1000000)
    [hB : Bx w Br 131 [.slice (some ⟨g, 0, none⟩) V.length c]] [hA : At w g (rowF V) wz] (hps : ps.size = 2) (upd : Array Value → Fin V.length → Nat → Array Value)
    (I : List (Fin V.length) → World → Prop) (Ix : Code → List (Fin V.length) → World → Prop) (hI : OwnFrom w.heap.size I) (hIx : ∀ c, OwnFrom w.heap.size (Ix c)) (h0 : I [] w)
    (hassign : ∀ (l : Nat) (pre : List (Fin V.length)) (x : Fin V.length) (W : World) (K : Act → World → Prop), I pre W → (∀ W' b, W.heap.size = b → Kp W W' → Bx W' b 238 (edL V x.val) → K { tmps := upd Ts x b, defers := [] } W') →
      assign.wpIn (Fence.wide.inRound l) (n - 1 - 1) Tryz.prog (Exit.then K (fun _ _ _ => False)) { tmps := (ps.zip (encE V x)).foldl (fun t (p, v) => t.setIfInBounds p v) Ts, defers := [] } W)
    (hIb : ∀ pre W W', I pre W → Kp W W' → I pre W') (hIs : ∀ pre W, I pre W → w.heap.size ≤ W.heap.size)
    (hbody : ∀ (l : Nat) (pre : List (Fin V.length)) (x : Fin V.length) (b : Nat) (W : World), I pre W → w.heap.size ≤ b → Bx W b 238 (edL V x.val) → pre.length < V.length → body.wpIn (Fence.wide.inRound l) (n - 1 - 1) Tryz.prog (ownPostG w.heap.size (K2 Br g c V wz) I Ix (pre ++ [x]) W) { tmps := upd Ts x b, defers := [] } W)
    (hdone : ∀ (D : Nat) (W : World), w.heap.size ≤ D → I (List.finRange V.length) W → W.heap[D]? = some (.deferred (some [])) → Q .normal { tmps := Ts, defers := [{ target := .collected D, args := #[] }] } W)
    (hstop : ∀ (D : Nat) (c : Code) (pre : List (Fin V.length)) (W : World), w.heap.size ≤ D → pre <+: List.finRange V.length → Ix c pre W → W.heap[D]? = some (.deferred (some [])) → c.wpIn Fence.wide n Tryz.prog Q { tmps := Ts, defers := [{ target := .collected D, args := #[] }] } W) :
    (Code.rangeFunc go_ ps assign body).wp Tryz.prog Q { tmps := Ts, defers := [] } w := by
  refine (wpIn_wide (n := n)).1 ?_
  refine wpIn_rangeFunc_ownH rfl (by omega) hg trivial (enters_of Tryz.func202 (by kernel_rfl) rfl) (edges_stops2 (n - 1) (by omega) Br g c V hV w wz) K2.trans (fun W l o o' => K2.put W l o o') (Below.refl _ _) (fun _ => by rw [hps]; rfl)
    I Ix hI hIx h0 (fun x a' W => ∃ b, w.heap.size ≤ b ∧ Bx W b 238 (edL V x.val) ∧ a' = { tmps := upd Ts x b, defers := [] }) ?_ ?_ ?_ ?_ ?_
  · intro x a' s A B row ⟨b, h1, h2, h3⟩ hgr hr
    refine ⟨b, h1, ⟨?_⟩, h3⟩
    rw [hgr.block b h2.lt (fun e => ?_)]
    · exact h2.out
    · obtain ⟨_, o, ho, hc⟩ := hr b e.symm; rw [h2.out] at ho
      cases ho
      cases hc
  · intro l pre x W K hi hK
    refine hassign l pre x W K hi (fun W' b hb hk hx => ?_)
    have hs := hIs _ _ hi
    exact hK _ _ ((KeepsOthers.of_grownBy (row := none) (below_gb hk.out) (fun j o e => by cases e)).from _) (K2.of hk) (hIb _ _ _ hi hk) ⟨b, by omega, hx, rfl⟩
  · rintro l pre x a' W _ _ hi ⟨b, h1, h2, rfl⟩ hlt
    exact hbody l pre x b W hi h1 h2 hlt
  · rintro D xs W hD rfl hi hK
    exact hdone D W hD hi hK
  · exact hstop
end
end Go.Proofs.YtdlnoeegboapkaaGreatDoor
