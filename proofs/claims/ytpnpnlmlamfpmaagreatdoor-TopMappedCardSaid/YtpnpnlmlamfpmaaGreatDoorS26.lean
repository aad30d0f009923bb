import Derived.Test.YtpnpnlmlamfpmaaGreatDoorS23
import Derived.Test.YtpnpnlmlamfpmaaGreatDoorS24
import Derived.Great.BuildSlice
import Derived.Laws.CopyOwn
namespace Go.Proofs.YtpnpnlmlamfpmaaGreatDoor
open Go.RowKit
set_option linter.unusedVariables false
set_option maxRecDepth 100000
section
variable {W : World} {t : TypeId}
theorem A0 {ops : Array Oper} {rest : List Oper} {o : Oper} {a : Act} {Q : Exit → Act → World → Prop} {x : Operand} {ad : Addr} {v : Value} (hg : o.guard = none) (hop : o.op = .load t x)
  (hx : a.eval x = .pointer (some ad)) (hl : (loadVar t ad).run Tryz.prog W = .ok v W) (hK : wpList Tryz.prog ops Q rest (a.put o.dst v) W) : wpList Tryz.prog ops Q (o :: rest) a W := by
 refine wpList_plain hg fun K hKK => ?_
 unfold Oper.wp execOp
 simp [hop, hx, Instr.loadAt, Instr.sureAddr, hl, Result.andThen]; exact hKK _ _ hK
theorem Bc {P : Program} {b : Nat} {ty : TypeId} {d : TypeDesc} {l : List Value} [hb : Bx W b t l]
  (hu : P.underlying ty = some d) (hd : (match d with | .struct _ | .array _ _ => true | _ => false) = true) (hi : (P.info? ty).map (·.size) = some l.length) :
  (loadVar ty ⟨b, 0, none⟩).run P W = .ok (.agg l.toArray) W := M1 W b ty l d hu hd hi (fun j hj => by rw [B8, List.getElem?_eq_getElem hj])
end

section
set_option maxHeartbeats 40000000
set_option synthInstance.maxHeartbeats 1000000
set_option synthInstance.maxSize 100000
attribute [local go_sem] Oper.semAt_some
structure K2 (Br g c : Nat) (V : List FV) (wz : World) (A B : World) : Prop where
 size : A.heap.size ≤ B.heap.size
 bx : Bx A Br 91 [.slice (some ⟨g, 0, none⟩) V.length c] → Bx B Br 91 [.slice (some ⟨g, 0, none⟩) V.length c]
 at' : At A g (Ax V) wz → At B g (Ax V) wz
variable {A B w wz : World} {Br c g : Nat} {V : List FV}
theorem K2.refl : K2 Br g c V wz A A := ⟨Nat.le_refl _, id, id⟩
theorem K2.trans {C : World} (h : K2 Br g c V wz A B) (k : K2 Br g c V wz B C) : K2 Br g c V wz A C :=
 ⟨Nat.le_trans h.size k.size, fun x => k.bx (h.bx x), fun x => k.at' (h.at' x)⟩
theorem K2.of (h : Kp A B) : K2 Br g c V wz A B := by
 have k : Kp1 A B := ⟨h.out⟩
 exact ⟨h.out.size, fun x => ii, fun x => ii⟩
theorem K2.put (W : World) (l : Nat) (o o' : Obj) (hl : w.heap.size ≤ l) (h : W.heap[l]? = some o) (h2 : o.isCells = false) (_ : o.isWalk = false) : K2 Br g c V wz W (W.putObj l o') := by
 refine ⟨by simp [World.putObj], fun x => ⟨?_⟩, fun x => ⟨fun j u hu => ?_, x.lt, by simpa [World.putObj] using x.ltW⟩⟩
 ·have hne : l ≠ Br := fun e => by subst e; rw [x.out] at h; cases h; cases h2
  simp only [World.putObj, Array.getElem?_setIfInBounds]
  rw [if_neg hne]; exact x.out
 ·have h3 := x.out j u hu
  have hne : l ≠ g := fun e => by
   subst e; simp only [World.cell?, h] at h3
   cases o <;> first | exact Bool.noConfusion h2 | (simp at h3; done)
  simp only [World.cell?, World.putObj, Array.getElem?_setIfInBounds] at h3 ⊢
  rw [if_neg hne]; exact h3
theorem Qfh (n : Nat) (hn : 1 ≤ n) (l Br g c : Nat) (V : List FV) (hV : V.length ≤ 1000000) (wz : World) (J Jx : List (Fin V.length) → World → Prop) (W : World) (hJ : AbidesFrom W.heap.size J)
  (hY : ∀ pre x W1, J pre W1 → pre.length < V.length → YieldAt Fence.wide (n - 1) Tryz.prog l (Fb V x) W1 fun e W' =>
   (e = .returned (.bool true) ∧ J (pre ++ [x]) W' ∧ K2 Br g c V wz W1 W') ∨ (e = .returned (.bool false) ∧ Jx (pre ++ [x]) W'))
  [hB : Bx W Br 91 [.slice (some ⟨g, 0, none⟩) V.length c]] [hA : At W g (Ax V) wz] (h0 : J [] W) :
  CallsIn Fence.wide n Tryz.prog 117 #[.func (.yield l) #[] #[], .pointer (some ⟨Br, 0, none⟩)] W fun e W' => (∃ v, e = .returned v) ∧
   ((∃ ys, ys = List.finRange V.length ∧ J ys W') ∨ (∃ pre, pre <+: List.finRange V.length ∧ Jx pre W')) := by
 have hmx : Tryz.prog.follows .mixedOrders = true := by kernel_rfl
 refine callsIn_of_wp Tryz.func117 rfl trivial ?_ rfl
 simp only [Tryz.ntmps117, List.size_toArray, List.length_cons, List.length_nil, Nat.reduceAdd, Nat.reduceSub, Array.replicate_succ, Array.replicate_zero, List.push_toArray, List.append_toArray, List.nil_append, List.cons_append]
 gi_wp2
 gi_loopw [7] (fun i wr => ∃ q : Nat, q ≤ V.length ∧ i = .int .i64 (q : Int) ∧ J ((List.finRange V.length).take q) wr ∧ K2 Br g c V wz W wr) (fun i _ => V.length - (intOf i).toNat)
 case atStart => exact ⟨0, Nat.zero_le _, rfl, by simpa using h0, K2.refl⟩
 case round =>
  obtain ⟨q, hq, rfl, hJs, hnx⟩ := hrel
  by_cases hlt : q < V.length
  ·have hlt' : (q : Int) < V.length := by omega
   have i1 := hnx.bx hB
   have i2 := hnx.at' hA
   have ew : IntKind.i64.wrap ((q : Int) + 1) = (q : Int) + 1 := Ap (by omega) (by omega)
   obtain ⟨m, hm0⟩ : ∃ m, (q + 1) % V.length = m := ⟨_, rfl⟩
   have hm : m < V.length := by rw [← hm0]; exact Nat.mod_lt _ (by omega)
   have hm' : (m : Int) < V.length := (by omega)
   have er : ((q : Int) + 1).tmod (V.length : Int) = (m : Int) := by
    rw [← hm0, show (q : Int) + 1 = ((q + 1 : Nat) : Int) by omega]; exact (Int.ofNat_tmod _ _).symm
   have HM := Lib.hid hm0; clear hm0; have hz : ¬ ((V.length : Int) = 0) := (by omega); have hz2 : ¬ (V.length = 0) := (by omega)
   have hz3 : V ≠ [] := fun e => by rw [e] at hlt; simp at hlt
   gi_wp2
   refine nmreg (fun W4 => Kp wr W4 ∧ Bx W4 wr.heap.size 98 (fv V q).l ∧ Bx W4 Br 91 [.slice (some ⟨g, 0, none⟩) V.length c] ∧ At W4 g (Ax V) wz) ⟨ii, Bx.re rfl, ii, ii⟩ ?_
   intro W4 ⟨k1, k2, k3, k4⟩
   have hJ4 := hJ _ _ W4.drew none hJs (Fu (ii : Kp wr W4.drew).out) (fun r e => by cases e)
   obtain ⟨fn, tmps, assign, body, hy, hR⟩ := hY _ ⟨q, hlt⟩ _ hJ4 (by simp; omega)
   have hR' := hR.mono (R' := fun e W' => ∃ b : Bool, e = .returned (.bool b) ∧ (b = true → J ((List.finRange V.length).take (q + 1)) W' ∧ K2 Br g c V wz W4.drew W') ∧ (b = false → Jx ((List.finRange V.length).take (q + 1)) W')) (by
    rintro e W' (⟨h1, h2, h3⟩ | ⟨h1, h2⟩)
    ·exact ⟨true, h1, fun _ => ⟨(by rw [H7 hlt]; exact h2), h3⟩, fun h => (by cases h)⟩
    ·exact ⟨false, h1, fun h => (by cases h), fun _ => (by rw [H7 hlt]; exact h2)⟩)
   clear hR
   dsimp only [Fb, edL] at hy
   rw [HM.out] at hy; simp only [FV.l] at k2; clear hY hJ
   gi_region_with_o (refine hR'.mono ?_; rintro e W5 ⟨b, rfl, hb1, hb2⟩)
   all_goals
    cases b with
    | true =>
     obtain ⟨hJ5, hk5⟩ := hb1 rfl
     have hk6 : K2 Br g c V wz wr W5 := (K2.of (ii : Kp wr W4.drew)).trans hk5
     gi_wp2
     go_roundw
     case rel => exact ⟨q + 1, by omega, by go_num, hJ5, hnx.trans hk6⟩
     case measure => simp [intOf]; omega
    | false =>
     have hx5 := hb2 rfl
     gi_wp2
     refine bodyPost_ret (results_none rfl _ _ _) rfl ?_
     exact ⟨⟨_, rfl⟩, .inr ⟨_, List.take_prefix _ _, hx5⟩⟩
  ·obtain rfl : q = V.length := by omega
   gi_wp2
   go_end0
   exact ⟨⟨_, rfl⟩, .inl ⟨_, rfl, by rw [List.take_of_length_le (by simp)] at hJs; exact hJs⟩⟩
theorem Qbw (n : Nat) (hn : 1 ≤ n) (Br g c : Nat) (V : List FV) (hV : V.length ≤ 1000000) (w wz : World) [hB : Bx w Br 91 [.slice (some ⟨g, 0, none⟩) V.length c]] [hA : At w g (Ax V) wz] :
  SeqStopsK Fence.wide n Tryz.prog 117 #[.pointer (some ⟨Br, 0, none⟩)] (Fb V) (K2 Br g c V wz) (fun ys => ys = List.finRange V.length) (fun pre => pre <+: List.finRange V.length) V.length w := fun l J Jx W hW hJ _ hY h0 => by
 have kW : Kp1 w W := ⟨hW⟩
 exact Qfh n hn l Br g c V hV wz J Jx W hJ hY h0
theorem Qai {n : Nat} {Q : Exit → Act → World → Prop} (wz : World) {go_ : Operand} {ps : Array Tmp} {assign body : Code} {Ts : Array Value} (hn : 3 ≤ n) (hg : Act.eval { tmps := Ts, defers := [] } go_ = .func (.func 117) #[] #[.pointer (some ⟨Br, 0, none⟩)]) (hV : V.length ≤ 1000000)
  [hB : Bx w Br 91 [.slice (some ⟨g, 0, none⟩) V.length c]] [hA : At w g (Ax V) wz] (hps : ps.size = 2) (upd : Array Value → Fin V.length → Nat → Array Value)
  (I : List (Fin V.length) → World → Prop) (Ix : Code → List (Fin V.length) → World → Prop) (hI : OwnFrom w.heap.size I) (hIx : ∀ c, OwnFrom w.heap.size (Ix c)) (h0 : I [] w)
  (hassign : ∀ (l : Nat) (pre : List (Fin V.length)) (x : Fin V.length) (W : World) (K : Act → World → Prop), I pre W → (∀ W' b, W.heap.size = b → Kp W W' → Bx W' b 158 (edL V x.val) → K { tmps := upd Ts x b, defers := [] } W') →
   assign.wpIn (Fence.wide.inRound l) (n - 1 - 1) Tryz.prog (Exit.then K (fun _ _ _ => False)) { tmps := (ps.zip (Fb V x)).foldl (fun t (p, v) => t.setIfInBounds p v) Ts, defers := [] } W)
  (hIb : ∀ pre W W', I pre W → Kp W W' → I pre W') (hIs : ∀ pre W, I pre W → w.heap.size ≤ W.heap.size)
  (hbody : ∀ (l : Nat) (pre : List (Fin V.length)) (x : Fin V.length) (b : Nat) (W : World), I pre W → w.heap.size ≤ b → Bx W b 158 (edL V x.val) → pre.length < V.length → body.wpIn (Fence.wide.inRound l) (n - 1 - 1) Tryz.prog (ownPostG w.heap.size (K2 Br g c V wz) I Ix (pre ++ [x]) W) { tmps := upd Ts x b, defers := [] } W)
  (hdone : ∀ (D : Nat) (W : World), w.heap.size ≤ D → I (List.finRange V.length) W → W.heap[D]? = some (.deferred (some [])) → Q .normal { tmps := Ts, defers := [{ target := .collected D, args := #[] }] } W)
  (hstop : ∀ (D : Nat) (c : Code) (pre : List (Fin V.length)) (W : World), w.heap.size ≤ D → pre <+: List.finRange V.length → Ix c pre W → W.heap[D]? = some (.deferred (some [])) → c.wpIn Fence.wide n Tryz.prog Q { tmps := Ts, defers := [{ target := .collected D, args := #[] }] } W) :
  (Code.rangeFunc go_ ps assign body).wp Tryz.prog Q { tmps := Ts, defers := [] } w := by
 refine (wpIn_wide (n := n)).1 ?_
 refine wpIn_rangeFunc_ownH rfl (by omega) hg trivial (enters_of Tryz.func117 (by kernel_rfl) rfl) (Qbw (n - 1) (by omega) Br g c V hV w wz) K2.trans (fun W l o o' => K2.put W l o o') (Below.refl _ _) (fun _ => by rw [hps]; rfl)
  I Ix hI hIx h0 (fun x a' W => ∃ b, w.heap.size ≤ b ∧ Bx W b 158 (edL V x.val) ∧ a' = { tmps := upd Ts x b, defers := [] }) ?_ ?_ ?_ ?_ ?_
 ·intro x a' s A B row ⟨b, h1, h2, h3⟩ hgr hr
  refine ⟨b, h1, ⟨?_⟩, h3⟩
  rw [hgr.block b h2.lt (fun e => ?_)]
  ·exact h2.out
  ·obtain ⟨_, o, ho, hc⟩ := hr b e.symm; rw [h2.out] at ho
   cases ho
   cases hc
 ·intro l pre x W K hi hK
  refine hassign l pre x W K hi (fun W' b hb hk hx => ?_)
  have hs := hIs _ _ hi
  exact hK _ _ ((KeepsOthers.of_grownBy (row := none) (Fu hk.out) (fun j o e => by cases e)).from _) (K2.of hk) (hIb _ _ _ hi hk) ⟨b, by omega, hx, rfl⟩
 ·rintro l pre x a' W _ _ hi ⟨b, h1, h2, rfl⟩ hlt
  exact hbody l pre x b W hi h1 h2 hlt
 ·rintro D xs W hD rfl hi hK
  exact hdone D W hD hi hK
 ·exact hstop
end
section
section
variable {P : Program} {ops : Array Oper} {Q : Exit → Act → World → Prop} {md : Region.Mode} {S : World → Prop} {T : Nat → Bool}
def chain (md : Region.Mode) (ops : Array Oper) (W : List Nat) (i : Nat) : Bool := W.all fun j => match ops[j]? with
 | some o => o.after.any fun e => Region.binds md e && (e.on == i || W.contains e.on)
 | none => false
theorem Qas {W : List Nat} {i j : Nat} {oj : Oper} (h : chain md ops W i = true) (hj : j ∈ W) (hoj : ops[j]? = some oj) : ∃ e ∈ oj.after, Region.binds md e = true ∧ (e.on = i ∨ e.on ∈ W) := by
 have h1 := List.all_eq_true.1 h j hj
 rw [hoj] at h1; obtain ⟨e, he, h2⟩ := Array.any_eq_true'.1 h1; simp only [Bool.and_eq_true, Bool.or_eq_true, beq_iff_eq, List.contains_iff_mem] at h2; exact ⟨e, he, h2.1, h2.2⟩
theorem Qiw {i : Nat} {oi : Oper} {v : Value} {W : List Nat} (hi : ops[i]? = some oi) (hsel : ∀ (j : Nat) (o : Oper) cs b, ops[j]? = some o → o.op ≠ .select cs b)
  (hQ : ∀ c a w, Q (.panic c) (a.put oi.dst v) w → Q (.panic c) a w) (hT : ∀ j, T j = true → j ∈ W) (hW : chain md ops W i = true) :
  ∀ (fuel : Nat) (listed : Array Bool) (a : Act) (w : World), (∀ j ∈ W, listed.getD j true = false) →
   (∀ j oj, ops[j]? = some oj → j ≠ i → listed.getD j true = false → (∀ e ∈ oj.after, Region.binds md e = true → e.on ≠ i) → oi.apart ops oj = true) →
   i ∈ Region.ready md ops listed → YieldsIf P ops S oi v a → S w →
   A5 P md ops Q S T fuel (listed.setIfInBounds i true) (a.put oi.dst v) w → A5 P md ops Q S T (fuel + 1) listed a w := by
 intro fuel
 induction fuel with
 | zero =>
  intro listed a w _ _ hr hy hS H
  refine ⟨fun h => (by rw [h] at hr; cases hr), fun j hj => ?_⟩
  by_cases hji : j = i
  ·subst hji; exact hy.wpOp hi hS ⟨fun _ => hS, H⟩
  ·have h0 := ready_mono hj hji
   rw [H.1] at h0
   cases h0
 | succ fuel ih =>
  intro listed a w hun hfree hr hy hS H
  refine ⟨fun h => (by rw [h] at hr; cases hr), fun j hj => ?_⟩
  by_cases hji : j = i
  ·subst hji; exact hy.wpOp hi hS ⟨fun _ => hS, H⟩
  ·obtain ⟨hjun, oj, hoj, hall⟩ := mem_ready.1 hj
   have hiun := (mem_ready.1 hr).1
   have hnot : ∀ e ∈ oj.after, Region.binds md e = true → e.on ≠ i := fun e he hb heq => by
    have h1 := hall e he hb
    rw [heq] at h1
    rcases Nat.lt_or_ge i listed.size with h' | h'
    ·simp [h'] at hiun h1; rw [hiun] at h1; cases h1
    ·simp [Array.getElem?_eq_none h'] at h1
   have hjW : j ∉ W := fun hc => by
    obtain ⟨e, he, hb, ho⟩ := Qas hW hc hoj
    rcases ho with ho | ho
    ·exact absurd ho (hnot e he hb)
    ·have h1 := hall e he hb
     have h2 := hun e.on ho
     rcases Nat.lt_or_ge e.on listed.size with h' | h'
     ·simp [h'] at h1 h2; rw [h2] at h1; cases h1
     ·simp [Array.getElem?_eq_none h'] at h1
   have hTj : T j = false := by
    cases hc : T j with
    | false => rfl
    | true => exact absurd (hT j hc) hjW
   have k := wpOp_putIf hoj (hfree j oj hoj hji hjun hnot) (fun cs b => hsel i oi cs b hi) (fun cs b => hsel j oj cs b hoj) hQ hy (H.2 j (ready_mono hj hji))
   refine wpOp_mono (fun a' w' q => ⟨fun _ => q.2.1 hTj, ih (listed.setIfInBounds j true) a' w' (fun m hm => ?_) (fun m om hm hmi hun2 hno => hfree m om hm hmi ?_ hno) (ready_mono hr (Ne.symm hji)) q.1 (q.2.1 hTj) ?_⟩) k
   ·have hne : j ≠ m := fun e => hjW (by rw [e]; exact hm)
    rw [getD_set_ne true hne]; exact hun m hm
   ·by_cases hjm : j = m
    ·subst hjm; exact hjun
    ·rw [getD_set_ne true hjm] at hun2; exact hun2
   ·rw [Array.setIfInBounds_comm _ _ hji]; exact q.2.2
end
section
variable {P : Program} {ops : Array Oper} {Q : Exit → Act → World → Prop} {md : Region.Mode} {w0 : World} {L Ts : List Nat}
theorem tkW (i : Nat) (W : List Nat) {oi : Oper} {v : Value} {fuel : Nat} {listed : Array Bool} {a a' : Act} {w : World} (hS : Ex w0 L w) (h : A5 P md ops Q (Ex w0 L) Ts.contains fuel (listed.setIfInBounds i true) a' w)
  (hi : ops[i]? = some oi := by simp; rfl) (hs : Region.noSelect ops = true := by kernel_rfl) (hf : Region.free md ops listed i = true := by kernel_rfl) (hr : (Region.ready md ops listed).contains i = true := by kernel_rfl)
  (hQ : ∀ c a w, Q (.panic c) (a.put oi.dst v) w → Q (.panic c) a w := by exact fun _ _ _ h => h) (hT : (Ts.all fun j => W.contains j) = true := by rfl) (hW : chain md ops W i = true := by kernel_rfl) (hU : (W.all fun j => !listed.getD j true) = true := by kernel_rfl) (hw : Region.wanted oi (yielded ops a.tmps) = true := by rfl)
  (hy : ∀ wx, Ex w0 L wx → (execOp a.eval oi).run P wx = .ok (.value v) wx := by (intro wx hSw; have hSx := Ex1.mk hSw; go_simp; try with_reducible rfl))
  (ha : a.put oi.dst v = a' := by (simp only [Act.put, List.setIfInBounds_toArray, List.set_cons_zero, List.set_cons_succ]; first | done | rfl)) : A5 P md ops Q (Ex w0 L) Ts.contains (fuel + 1) listed a w := by
 subst ha
 refine Qiw hi (Region.noSelect_spec hs) hQ (fun j hj => ?_) hW fuel listed a w (fun j hj => ?_) (Region.free_spec hi hf) (by simpa using hr) (Or.inl ⟨hw, hy⟩) hS h
 ·have h1 := List.all_eq_true.1 hT j (by simpa using hj)
  simpa using h1
 ·have h1 := List.all_eq_true.1 hU j hj
  simpa using h1
end
end
section
open Cel
def Ih (l : LQ) : Prop := ∃ A B C : Int, LnV A B C ∧ l = ⟨(A : Rat), (B : Rat), (C : Rat)⟩
theorem S6 : Fam Ih := by
 refine ⟨?_, ?_, ?_⟩
 ·rintro l ⟨A, B, C, h, rfl⟩
  exact Yk h.1
 ·rintro l ⟨A, B, C, h, rfl⟩
  refine ⟨-A, -B, -C, h.rev, ?_⟩
  simp [Cel.rev]
 ·rintro l m ⟨A, B, C, h, rfl⟩ ⟨A', B', C', h', rfl⟩ k hk e1 e2 e3
  simp only at e1 e2 e3
  rcases Qfv h' h (Rat.ne_of_gt hk) e1 e2 e3 with ⟨rfl, rfl, rfl⟩ | ⟨rfl, rfl, rfl⟩
  ·rfl
  ·exfalso
   have h1 : ((-A : Int) : Rat) = -(A : Rat) := by simp
   have h2 : ((-B : Int) : Rat) = -(B : Rat) := by simp
   rw [h1] at e1; rw [h2] at e2
   have z1 : (A : Rat) = 0 := by
    have : (k + 1) * (A : Rat) = 0 := by grind
    rcases Rat.mul_eq_zero.1 this with e | e
    ·grind
    ·exact e
   have z2 : (B : Rat) = 0 := by
    have : (k + 1) * (B : Rat) = 0 := by grind
    rcases Rat.mul_eq_zero.1 this with e | e
    ·grind
    ·exact e
   exact h.1 ⟨by exact_mod_cast z1, by exact_mod_cast z2⟩
def Bb (m : Aff) (l : LQ) : LQ := ⟨lnK (E9 l m) (E9 l m) (Ey l m) (Er l m), lnK (Ey l m) (E9 l m) (Ey l m) (Er l m), lnK (Er l m) (E9 l m) (Ey l m) (Er l m)⟩
variable {m : Aff}
theorem Xo (hd : m.det ≠ 0) {l : LQ} (hl : l.ok) : Ih (Bb m l) := by
 obtain ⟨A, B, C, e1, e2, e3, h⟩ := Ju (c := Er l m) (Nb hd hl)
 exact ⟨A, B, C, h, by unfold Bb; rw [e1, e2, e3]⟩
theorem Qgs (hd : m.det ≠ 0) (l : LQ) (hl : Ih l) : Ih (Bb m l) ∧ ∃ g : Rat, 0 < g ∧ ∀ p, (Bb m l).val (m.to p) = g * l.val p := by
 have hk := S6.ok l hl
 refine ⟨Xo hd hk, (lnG (E9 l m) (Ey l m) (Er l m))⁻¹, Rat.inv_pos.2 (Me _ (Nb hd hk)), fun p => ?_⟩
 rw [← Mp hd p]
 show lnK _ _ _ _ * (m.to p).1 + lnK _ _ _ _ * (m.to p).2 + lnK _ _ _ _ = _
 unfold lnK
 grind
end
section
open Go Go.RowKit
theorem Tryz.gRa : Tryz.prog.globalNamed "bspregion/api.ErrRange" = some 1 := by kernel_rfl
theorem Tryz.gRat : (Tryz.prog.globals[1]?).map (·.type) = some 56 := by kernel_rfl
def laidT : List (String × DataW Unit) := [("math/bits.deBruijn32tab", Rows.laid_math_bits_deBruijn32tab), ("math/bits.deBruijn64tab", Rows.laid_math_bits_deBruijn64tab), ("internal/strconv.uint64pow10", Rows.laid_internal_strconv_uint64pow10), ("bspregion/api.ErrInvalid", Rows.laid_bspregion_api_ErrInvalid), ("bspregion/api.ErrRing", Rows.laid_bspregion_api_ErrRing), ("bspregion/api.ErrUnbounded", Rows.laid_bspregion_api_ErrUnbounded), ("bspregion/api.ErrSingular", Rows.laid_bspregion_api_ErrSingular), ("bspregion/api.ErrLimit", Rows.laid_bspregion_api_ErrLimit), ("bspregion/api.ErrRange", Rows.laid_bspregion_api_ErrRange)]
theorem Qkn {W : World} (hL : laidMetH Tryz.prog laidT W) : ∃ aR, Snt W 1 aR W := by
 rw [MakeChecks.laidMetH_plain _ _ _ (by kernel_rfl)] at hL
 have hT := hL.tail.tail.tail.tail.tail.tail.tail
 obtain ⟨a0, a1, s0, s1, c0, c1, t0, t1, hv0, hv1, _, _, _, _, _, _, hne, hb0, hb1⟩ := laid_sentinels2 hT Tryz.gLi Tryz.gLit Tryz.gRa Tryz.gRat Tryz.underlying56 Tryz.rrowEs Tryz.underlying329 Tryz.underlying346 rfl rfl Tryz.underlying9 Tryz.rcellsEs Tryz.rcellsStr; exact ⟨a1, Qh7 Tryz.gRa hv1 ⟨_, _, hb1⟩⟩
end
end Go.Proofs.YtpnpnlmlamfpmaaGreatDoor
