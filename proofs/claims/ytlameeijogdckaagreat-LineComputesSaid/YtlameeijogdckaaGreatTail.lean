/-
  A region that draws its order, whose last operations write cells that the region itself loads: the condition S on the world is asked only as long as none of those last operations (T) has been carried out. In the manner of the base's law on held conditions (Derived.OrdersHeld), with S let go at the end.
-/
import Derived.Test.YtlameeijogdckaaGreatCls
namespace Go.Proofs.YtlameeijogdckaaGreat
open Go.RowKit
section
variable {P : Program} {ops : Array Oper} {Q : Exit → Act → World → Prop} {md : Region.Mode} {S : World → Prop} {T : Nat → Bool}
/-- In whatever order it goes on, S holds behind every operation that is none of T. -/
def wpAnyT (P : Program) (md : Region.Mode) (ops : Array Oper) (Q : Exit → Act → World → Prop) (S : World → Prop) (T : Nat → Bool) : Nat → Array Bool → Act → World → Prop
  | 0, listed, a, w => Region.ready md ops listed = [] ∧ Q .normal a w
  | fuel + 1, listed, a, w => (Region.ready md ops listed = [] → Q .normal a w) ∧
    ∀ i ∈ Region.ready md ops listed, wpOp P ops Q i (fun a' w' => (T i = false → S w') ∧ wpAnyT P md ops Q S T fuel (listed.setIfInBounds i true) a' w') a w
theorem wpAny_of_T : ∀ (fuel : Nat) (listed : Array Bool) (a : Act) (w : World), wpAnyT P md ops Q S T fuel listed a w → wpAny P md ops Q fuel listed a w
  | 0, _, _, _, h => h
  | fuel + 1, _, _, _, h => ⟨h.1, fun i hi => wpOp_mono (fun a' w' k => wpAny_of_T fuel _ a' w' k.2) (h.2 i hi)⟩
/-- What waits for i. -/
def waits (md : Region.Mode) (ops : Array Oper) (i j : Nat) : Bool := match ops[j]? with
  | some o => o.after.any fun e => Region.binds md e && e.on == i
  | none => true
theorem not_waits {i j : Nat} {oj : Oper} (hj : ops[j]? = some oj) (hw : waits md ops i j = true) : ∃ e ∈ oj.after, Region.binds md e = true ∧ e.on = i := by
  unfold waits at hw
  rw [hj] at hw
  obtain ⟨e, he, h⟩ := Array.any_eq_true'.1 hw
  simp only [Bool.and_eq_true, beq_iff_eq] at h
  exact ⟨e, he, h.1, h.2⟩
theorem wpAnyT_first {i : Nat} {oi : Oper} {v : Value} (hi : ops[i]? = some oi) (hsel : ∀ (j : Nat) (o : Oper) cs b, ops[j]? = some o → o.op ≠ .select cs b)
    (hQ : ∀ c a w, Q (.panic c) (a.put oi.dst v) w → Q (.panic c) a w) (hT : ∀ j, T j = true → waits md ops i j = true) :
    ∀ (fuel : Nat) (listed : Array Bool) (a : Act) (w : World),
      (∀ j oj, ops[j]? = some oj → j ≠ i → listed.getD j true = false → (∀ e ∈ oj.after, Region.binds md e = true → e.on ≠ i) → oi.apart ops oj = true) →
      i ∈ Region.ready md ops listed → YieldsIf P ops S oi v a → S w →
      wpAnyT P md ops Q S T fuel (listed.setIfInBounds i true) (a.put oi.dst v) w → wpAnyT P md ops Q S T (fuel + 1) listed a w := by
  intro fuel
  induction fuel with
  | zero =>
    intro listed a w _ hr hy hS H
    refine ⟨fun h => (by rw [h] at hr; cases hr), fun j hj => ?_⟩
    by_cases hji : j = i
    · subst hji; exact hy.wpOp hi hS ⟨fun _ => hS, H⟩
    · have h0 := ready_mono hj hji
      rw [H.1] at h0
      cases h0
  | succ fuel ih =>
    intro listed a w hfree hr hy hS H
    refine ⟨fun h => (by rw [h] at hr; cases hr), fun j hj => ?_⟩
    by_cases hji : j = i
    · subst hji; exact hy.wpOp hi hS ⟨fun _ => hS, H⟩
    · obtain ⟨hjun, oj, hoj, hall⟩ := mem_ready.1 hj
      have hiun := (mem_ready.1 hr).1
      have hnot : ∀ e ∈ oj.after, Region.binds md e = true → e.on ≠ i := fun e he hb heq => by
        have h1 := hall e he hb
        rw [heq] at h1
        rcases Nat.lt_or_ge i listed.size with h' | h'
        · simp [h'] at hiun h1; rw [hiun] at h1; cases h1
        · simp [Array.getElem?_eq_none h'] at h1
      have hTj : T j = false := by
        cases hc : T j with
        | false => rfl
        | true =>
          obtain ⟨e, he, hb, ho⟩ := not_waits hoj (hT j hc)
          exact absurd ho (hnot e he hb)
      have k := wpOp_putIf hoj (hfree j oj hoj hji hjun hnot) (fun cs b => hsel i oi cs b hi) (fun cs b => hsel j oj cs b hoj) hQ hy (H.2 j (ready_mono hj hji))
      refine wpOp_mono (fun a' w' q => ⟨fun _ => q.2.1 hTj, ih (listed.setIfInBounds j true) a' w' (fun m om hm hmi hun hno => hfree m om hm hmi ?_ hno) (ready_mono hr (Ne.symm hji)) q.1 (q.2.1 hTj) ?_⟩) k
      · by_cases hjm : j = m
        · subst hjm; exact hjun
        · rw [getD_set_ne true hjm] at hun; exact hun
      · rw [Array.setIfInBounds_comm _ _ hji]
        exact q.2.2
/-- Number i is taken first; all of T waits for it. -/
theorem wpAnyT_take {i : Nat} {oi : Oper} {v : Value} {fuel : Nat} {listed : Array Bool} {a : Act} {w : World} (hi : ops[i]? = some oi)
    (hs : Region.noSelect ops = true) (hf : Region.free md ops listed i = true) (hr : (Region.ready md ops listed).contains i = true)
    (hQ : ∀ c a w, Q (.panic c) (a.put oi.dst v) w → Q (.panic c) a w) (hT : ∀ j, T j = true → waits md ops i j = true) (hy : YieldsIf P ops S oi v a) (hS : S w)
    (h : wpAnyT P md ops Q S T fuel (listed.setIfInBounds i true) (a.put oi.dst v) w) : wpAnyT P md ops Q S T (fuel + 1) listed a w :=
  wpAnyT_first hi (Region.noSelect_spec hs) hQ hT fuel listed a w (Region.free_spec hi hf) (by simpa using hr) hy hS h
/-- A pure operation of T is taken first: S is not asked. -/
theorem wpAnyT_first0 {i : Nat} {oi : Oper} {v : Value} (hi : ops[i]? = some oi) (hsel : ∀ (j : Nat) (o : Oper) cs b, ops[j]? = some o → o.op ≠ .select cs b)
    (hQ : ∀ c a w, Q (.panic c) (a.put oi.dst v) w → Q (.panic c) a w) (hTi : T i = true) :
    ∀ (fuel : Nat) (listed : Array Bool) (a : Act) (w : World),
      (∀ j oj, ops[j]? = some oj → j ≠ i → listed.getD j true = false → (∀ e ∈ oj.after, Region.binds md e = true → e.on ≠ i) → oi.apart ops oj = true) →
      i ∈ Region.ready md ops listed → YieldsIf P ops (fun _ => True) oi v a →
      wpAnyT P md ops Q S T fuel (listed.setIfInBounds i true) (a.put oi.dst v) w → wpAnyT P md ops Q S T (fuel + 1) listed a w := by
  have hno : ∀ w : World, T i = false → S w := fun w h => by rw [hTi] at h; cases h
  intro fuel
  induction fuel with
  | zero =>
    intro listed a w _ hr hy H
    refine ⟨fun h => (by rw [h] at hr; cases hr), fun j hj => ?_⟩
    by_cases hji : j = i
    · subst hji; exact hy.wpOp hi trivial ⟨hno w, H⟩
    · have h0 := ready_mono hj hji
      rw [H.1] at h0
      cases h0
  | succ fuel ih =>
    intro listed a w hfree hr hy H
    refine ⟨fun h => (by rw [h] at hr; cases hr), fun j hj => ?_⟩
    by_cases hji : j = i
    · subst hji; exact hy.wpOp hi trivial ⟨hno w, H⟩
    · obtain ⟨hjun, oj, hoj, hall⟩ := mem_ready.1 hj
      have hiun := (mem_ready.1 hr).1
      have hnot : ∀ e ∈ oj.after, Region.binds md e = true → e.on ≠ i := fun e he hb heq => by
        have h1 := hall e he hb
        rw [heq] at h1
        rcases Nat.lt_or_ge i listed.size with h' | h'
        · simp [h'] at hiun h1; rw [hiun] at h1; cases h1
        · simp [Array.getElem?_eq_none h'] at h1
      have k := wpOp_putIf hoj (hfree j oj hoj hji hjun hnot) (fun cs b => hsel i oi cs b hi) (fun cs b => hsel j oj cs b hoj) hQ hy (H.2 j (ready_mono hj hji))
      refine wpOp_mono (fun a' w' q => ⟨q.2.1, ih (listed.setIfInBounds j true) a' w' (fun m om hm hmi hun hno => hfree m om hm hmi ?_ hno) (ready_mono hr (Ne.symm hji)) q.1 ?_⟩) k
      · by_cases hjm : j = m
        · subst hjm; exact hjun
        · rw [getD_set_ne true hjm] at hun; exact hun
      · rw [Array.setIfInBounds_comm _ _ hji]
        exact q.2.2
theorem wpAnyT_take0 {i : Nat} {oi : Oper} {v : Value} {fuel : Nat} {listed : Array Bool} {a : Act} {w : World} (hi : ops[i]? = some oi)
    (hs : Region.noSelect ops = true) (hf : Region.free md ops listed i = true) (hr : (Region.ready md ops listed).contains i = true)
    (hQ : ∀ c a w, Q (.panic c) (a.put oi.dst v) w → Q (.panic c) a w) (hTi : T i = true) (hy : YieldsIf P ops (fun _ => True) oi v a)
    (h : wpAnyT P md ops Q S T fuel (listed.setIfInBounds i true) (a.put oi.dst v) w) : wpAnyT P md ops Q S T (fuel + 1) listed a w :=
  wpAnyT_first0 hi (Region.noSelect_spec hs) hQ hTi fuel listed a w (Region.free_spec hi hf) (by simpa using hr) hy h
def AllT (P : Program) (md : Region.Mode) (ops : Array Oper) (Q : Exit → Act → World → Prop) (S : World → Prop) (T : Nat → Bool) (fuel : Nat) (listed : Array Bool) (a : Act) (w : World) (rs : List Nat) : Prop :=
  ∀ i ∈ rs, wpOp P ops Q i (fun a' w' => (T i = false → S w') ∧ wpAnyT P md ops Q S T fuel (listed.setIfInBounds i true) a' w') a w
theorem AllT.nil {fuel : Nat} {listed : Array Bool} {a : Act} {w : World} : AllT P md ops Q S T fuel listed a w [] := fun _ h => by cases h
theorem AllT.cons {fuel : Nat} {listed : Array Bool} {a : Act} {w : World} {i : Nat} {o : Oper} {rs : List Nat} (ho : ops[i]? = some o)
    (h : ∀ K' : Act → World → Prop, Shut (∀ a w, (T i = false → S w) → ((T i = false → S w) → wpAnyT P md ops Q S T fuel (listed.setIfInBounds i true) a w) → K' a w) → if Region.wanted o (yielded ops a.tmps) = true then Oper.wp P o a w K' Q else K' (a.put o.dst undef) w)
    (hs : AllT P md ops Q S T fuel listed a w rs) : AllT P md ops Q S T fuel listed a w (i :: rs) := fun j hj => by
  rcases List.mem_cons.1 hj with rfl | hj
  · exact wpOp_step ho (fun K' hK => h K' (fun a w hS hW => hK a w ⟨hS, hW hS⟩))
  · exact hs j hj
theorem wpAnyT_ready {rs : List Nat} {fuel : Nat} {listed : Array Bool} {a : Act} {w : World} (hr : Region.ready md ops listed = rs) (hne : rs ≠ [])
    (h : AllT P md ops Q S T fuel listed a w rs) : wpAnyT P md ops Q S T (fuel + 1) listed a w := ⟨fun h0 => absurd (hr ▸ h0) hne, hr ▸ h⟩
theorem wpAnyT_done {listed : Array Bool} {a : Act} {w : World} (hr : Region.ready md ops listed = []) (h : Q .normal a w) : ∀ fuel, wpAnyT P md ops Q S T fuel listed a w
  | 0 => ⟨hr, h⟩
  | _ + 1 => ⟨fun _ => h, by rw [hr]; simp⟩
theorem region_t {id : Nat} {a : Act} {w : World} (hm : P.follows .mixedOrders = true) (L : List Nat) (T : Nat → Bool)
    (h : Ex w L w.drew → wpAnyT P .any ops Q (Ex w L) T ops.size (Array.replicate ops.size false) a w.drew) : (Code.region id ops true).wp P Q a w :=
  wp_region_any hm (wpAny_of_T _ _ _ _ (h Ex.dr))
/-- All of a finite T waits. -/
theorem T_waits {i : Nat} {L : List Nat} (h : (L.all fun j => waits md ops i j) = true) : ∀ j, (L.contains j) = true → waits md ops i j = true := fun j hj => by
  have := List.all_eq_true.1 h j (by simpa using hj)
  exact this
end
end Go.Proofs.YtlameeijogdckaaGreat
