/-
  Texts of this claim, joined: Tail, Err, Sen, Row, NumGcd, Int3.
-/
import Derived.Test.YtdlnoeegboapkaaGreatDoorBH
import Derived.Test.YtdlnoeegboapkaaGreatDoorProg
import Derived.WalkKit
import Derived.Lib.Hide
import Derived.LaidEql
import Derived.Stop.Asserts
import Derived.RowKitTokens
import Derived.Laws.AppendOwn
/- A region that draws its order, whose last operations write cells that the region itself loads: the condition S on the world is asked only as long as none of those last operations (T) has been carried out. In the manner of the base's law on held conditions (Derived.OrdersHeld), with S let go at the end. -/
namespace Go.Proofs.YtdlnoeegboapkaaGreatDoor
open Go.RowKit
section
variable {P : Program} {ops : Array Oper} {Q : Exit → Act → World → Prop} {md : Region.Mode} {S : World → Prop} {T : Nat → Bool}
/-- In whatever order it goes on, S holds behind every operation that is none of T. -/
def wpAnyT (P : Program) (md : Region.Mode) (ops : Array Oper) (Q : Exit → Act → World → Prop) (S : World → Prop) (T : Nat → Bool) : Nat → Array Bool → Act → World → Prop
  | 0, listed, a, w => Region.ready md ops listed = [] ∧ Q .normal a w
  | fuel + 1, listed, a, w => (Region.ready md ops listed = [] → Q .normal a w) ∧
    ∀ i ∈ Region.ready md ops listed, wpOp P ops Q i (fun a' w' => (T i = false → S w') ∧ wpAnyT P md ops Q S T fuel (listed.setIfInBounds i true) a' w') a w
theorem wpAny_of_T : ∀ (fuel : Nat) (listed : Array Bool) (a : Act) (w : World), wpAnyT P md ops Q S T fuel listed a w → wpAny P md ops Q fuel listed a w
  | 0, _, _, _, h => h
  | fuel + 1, _, _, _, h => ⟨h.1, fun i hi => wpOp_mono (fun a' w' k => wpAny_of_T fuel _ a' w' k.2) (h.2 i hi)⟩
/-- What waits for i. -/
def waits (md : Region.Mode) (ops : Array Oper) (i j : Nat) : Bool := match ops[j]? with
  | some o => o.after.any fun e => Region.binds md e && e.on == i
  | none => true
theorem not_waits {i j : Nat} {oj : Oper} (hj : ops[j]? = some oj) (hw : waits md ops i j = true) : ∃ e ∈ oj.after, Region.binds md e = true ∧ e.on = i := by
  unfold waits at hw
  rw [hj] at hw
  obtain ⟨e, he, h⟩ := Array.any_eq_true'.1 hw
  simp only [Bool.and_eq_true, beq_iff_eq] at h
  exact ⟨e, he, h.1, h.2⟩
theorem wpAnyT_first {i : Nat} {oi : Oper} {v : Value} (hi : ops[i]? = some oi) (hsel : ∀ (j : Nat) (o : Oper) cs b, ops[j]? = some o → o.op ≠ .select cs b)
    (hQ : ∀ c a w, Q (.panic c) (a.put oi.dst v) w → Q (.panic c) a w) (hT : ∀ j, T j = true → waits md ops i j = true) :
    ∀ (fuel : Nat) (listed : Array Bool) (a : Act) (w : World),
      (∀ j oj, ops[j]? = some oj → j ≠ i → listed.getD j true = false → (∀ e ∈ oj.after, Region.binds md e = true → e.on ≠ i) → oi.apart ops oj = true) →
      i ∈ Region.ready md ops listed → YieldsIf P ops S oi v a → S w →
      wpAnyT P md ops Q S T fuel (listed.setIfInBounds i true) (a.put oi.dst v) w → wpAnyT P md ops Q S T (fuel + 1) listed a w := by
  intro fuel
  induction fuel with
  | zero =>
    intro listed a w _ hr hy hS H
    refine ⟨fun h => (by rw [h] at hr; cases hr), fun j hj => ?_⟩
    by_cases hji : j = i
    · subst hji; exact hy.wpOp hi hS ⟨fun _ => hS, H⟩
    · have h0 := ready_mono hj hji
      rw [H.1] at h0
      cases h0
  | succ fuel ih =>
    intro listed a w hfree hr hy hS H
    refine ⟨fun h => (by rw [h] at hr; cases hr), fun j hj => ?_⟩
    by_cases hji : j = i
    · subst hji; exact hy.wpOp hi hS ⟨fun _ => hS, H⟩
    · obtain ⟨hjun, oj, hoj, hall⟩ := mem_ready.1 hj
      have hiun := (mem_ready.1 hr).1
      have hnot : ∀ e ∈ oj.after, Region.binds md e = true → e.on ≠ i := fun e he hb heq => by
        have h1 := hall e he hb
        rw [heq] at h1
        rcases Nat.lt_or_ge i listed.size with h' | h'
        · simp [h'] at hiun h1; rw [hiun] at h1; cases h1
        · simp [Array.getElem?_eq_none h'] at h1
      have hTj : T j = false := by
        cases hc : T j with
        | false => rfl
        | true =>
          obtain ⟨e, he, hb, ho⟩ := not_waits hoj (hT j hc)
          exact absurd ho (hnot e he hb)
      have k := wpOp_putIf hoj (hfree j oj hoj hji hjun hnot) (fun cs b => hsel i oi cs b hi) (fun cs b => hsel j oj cs b hoj) hQ hy (H.2 j (ready_mono hj hji))
      refine wpOp_mono (fun a' w' q => ⟨fun _ => q.2.1 hTj, ih (listed.setIfInBounds j true) a' w' (fun m om hm hmi hun hno => hfree m om hm hmi ?_ hno) (ready_mono hr (Ne.symm hji)) q.1 (q.2.1 hTj) ?_⟩) k
      · by_cases hjm : j = m
        · subst hjm; exact hjun
        · rw [getD_set_ne true hjm] at hun; exact hun
      · rw [Array.setIfInBounds_comm _ _ hji]
        exact q.2.2
/-- Number i is taken first; all of T waits for it. -/
theorem wpAnyT_take {i : Nat} {oi : Oper} {v : Value} {fuel : Nat} {listed : Array Bool} {a : Act} {w : World} (hi : ops[i]? = some oi)
    (hs : Region.noSelect ops = true) (hf : Region.free md ops listed i = true) (hr : (Region.ready md ops listed).contains i = true)
    (hQ : ∀ c a w, Q (.panic c) (a.put oi.dst v) w → Q (.panic c) a w) (hT : ∀ j, T j = true → waits md ops i j = true) (hy : YieldsIf P ops S oi v a) (hS : S w)
    (h : wpAnyT P md ops Q S T fuel (listed.setIfInBounds i true) (a.put oi.dst v) w) : wpAnyT P md ops Q S T (fuel + 1) listed a w :=
  wpAnyT_first hi (Region.noSelect_spec hs) hQ hT fuel listed a w (Region.free_spec hi hf) (by simpa using hr) hy hS h
/-- A pure operation of T is taken first: S is not asked. -/
theorem wpAnyT_first0 {i : Nat} {oi : Oper} {v : Value} (hi : ops[i]? = some oi) (hsel : ∀ (j : Nat) (o : Oper) cs b, ops[j]? = some o → o.op ≠ .select cs b)
    (hQ : ∀ c a w, Q (.panic c) (a.put oi.dst v) w → Q (.panic c) a w) (hTi : T i = true) :
    ∀ (fuel : Nat) (listed : Array Bool) (a : Act) (w : World),
      (∀ j oj, ops[j]? = some oj → j ≠ i → listed.getD j true = false → (∀ e ∈ oj.after, Region.binds md e = true → e.on ≠ i) → oi.apart ops oj = true) →
      i ∈ Region.ready md ops listed → YieldsIf P ops (fun _ => True) oi v a →
      wpAnyT P md ops Q S T fuel (listed.setIfInBounds i true) (a.put oi.dst v) w → wpAnyT P md ops Q S T (fuel + 1) listed a w := by
  have hno : ∀ w : World, T i = false → S w := fun w h => by rw [hTi] at h; cases h
  intro fuel
  induction fuel with
  | zero =>
    intro listed a w _ hr hy H
    refine ⟨fun h => (by rw [h] at hr; cases hr), fun j hj => ?_⟩
    by_cases hji : j = i
    · subst hji; exact hy.wpOp hi trivial ⟨hno w, H⟩
    · have h0 := ready_mono hj hji
      rw [H.1] at h0
      cases h0
  | succ fuel ih =>
    intro listed a w hfree hr hy H
    refine ⟨fun h => (by rw [h] at hr; cases hr), fun j hj => ?_⟩
    by_cases hji : j = i
    · subst hji; exact hy.wpOp hi trivial ⟨hno w, H⟩
    · obtain ⟨hjun, oj, hoj, hall⟩ := mem_ready.1 hj
      have hiun := (mem_ready.1 hr).1
      have hnot : ∀ e ∈ oj.after, Region.binds md e = true → e.on ≠ i := fun e he hb heq => by
        have h1 := hall e he hb
        rw [heq] at h1
        rcases Nat.lt_or_ge i listed.size with h' | h'
        · simp [h'] at hiun h1; rw [hiun] at h1; cases h1
        · simp [Array.getElem?_eq_none h'] at h1
      have k := wpOp_putIf hoj (hfree j oj hoj hji hjun hnot) (fun cs b => hsel i oi cs b hi) (fun cs b => hsel j oj cs b hoj) hQ hy (H.2 j (ready_mono hj hji))
      refine wpOp_mono (fun a' w' q => ⟨q.2.1, ih (listed.setIfInBounds j true) a' w' (fun m om hm hmi hun hno => hfree m om hm hmi ?_ hno) (ready_mono hr (Ne.symm hji)) q.1 ?_⟩) k
      · by_cases hjm : j = m
        · subst hjm; exact hjun
        · rw [getD_set_ne true hjm] at hun; exact hun
      · rw [Array.setIfInBounds_comm _ _ hji]
        exact q.2.2
theorem wpAnyT_take0 {i : Nat} {oi : Oper} {v : Value} {fuel : Nat} {listed : Array Bool} {a : Act} {w : World} (hi : ops[i]? = some oi)
    (hs : Region.noSelect ops = true) (hf : Region.free md ops listed i = true) (hr : (Region.ready md ops listed).contains i = true)
    (hQ : ∀ c a w, Q (.panic c) (a.put oi.dst v) w → Q (.panic c) a w) (hTi : T i = true) (hy : YieldsIf P ops (fun _ => True) oi v a)
    (h : wpAnyT P md ops Q S T fuel (listed.setIfInBounds i true) (a.put oi.dst v) w) : wpAnyT P md ops Q S T (fuel + 1) listed a w :=
  wpAnyT_first0 hi (Region.noSelect_spec hs) hQ hTi fuel listed a w (Region.free_spec hi hf) (by simpa using hr) hy h
def AllT (P : Program) (md : Region.Mode) (ops : Array Oper) (Q : Exit → Act → World → Prop) (S : World → Prop) (T : Nat → Bool) (fuel : Nat) (listed : Array Bool) (a : Act) (w : World) (rs : List Nat) : Prop :=
  ∀ i ∈ rs, wpOp P ops Q i (fun a' w' => (T i = false → S w') ∧ wpAnyT P md ops Q S T fuel (listed.setIfInBounds i true) a' w') a w
theorem AllT.nil {fuel : Nat} {listed : Array Bool} {a : Act} {w : World} : AllT P md ops Q S T fuel listed a w [] := fun _ h => by cases h
theorem AllT.cons {fuel : Nat} {listed : Array Bool} {a : Act} {w : World} {i : Nat} {o : Oper} {rs : List Nat} (ho : ops[i]? = some o)
    (h : ∀ K' : Act → World → Prop, Shut (∀ a w, (T i = false → S w) → ((T i = false → S w) → wpAnyT P md ops Q S T fuel (listed.setIfInBounds i true) a w) → K' a w) → if Region.wanted o (yielded ops a.tmps) = true then Oper.wp P o a w K' Q else K' (a.put o.dst undef) w)
    (hs : AllT P md ops Q S T fuel listed a w rs) : AllT P md ops Q S T fuel listed a w (i :: rs) := fun j hj => by
  rcases List.mem_cons.1 hj with rfl | hj
  · exact wpOp_step ho (fun K' hK => h K' (fun a w hS hW => hK a w ⟨hS, hW hS⟩))
  · exact hs j hj
theorem wpAnyT_ready {rs : List Nat} {fuel : Nat} {listed : Array Bool} {a : Act} {w : World} (hr : Region.ready md ops listed = rs) (hne : rs ≠ [])
    (h : AllT P md ops Q S T fuel listed a w rs) : wpAnyT P md ops Q S T (fuel + 1) listed a w := ⟨fun h0 => absurd (hr ▸ h0) hne, hr ▸ h⟩
theorem wpAnyT_done {listed : Array Bool} {a : Act} {w : World} (hr : Region.ready md ops listed = []) (h : Q .normal a w) : ∀ fuel, wpAnyT P md ops Q S T fuel listed a w
  | 0 => ⟨hr, h⟩
  | _ + 1 => ⟨fun _ => h, by rw [hr]; simp⟩
theorem region_t {id : Nat} {a : Act} {w : World} (hm : P.follows .mixedOrders = true) (L : List Nat) (T : Nat → Bool)
    (h : Ex w L w.drew → wpAnyT P .any ops Q (Ex w L) T ops.size (Array.replicate ops.size false) a w.drew) : (Code.region id ops true).wp P Q a w :=
  wp_region_any hm (wpAny_of_T _ _ _ _ (h Ex.dr))
/-- All of a finite T waits. -/
theorem T_waits {i : Nat} {L : List Nat} (h : (L.all fun j => waits md ops i j) = true) : ∀ j, (L.contains j) = true → waits md ops i j = true := fun j hj => by
  have := List.all_eq_true.1 h j (by simpa using hj)
  exact this
end
/-! ### The same, short: what is alike in every step is found by itself -/
section
variable {P : Program} {ops : Array Oper} {Q : Exit → Act → World → Prop} {md : Region.Mode} {w0 : World} {L Ts : List Nat}
theorem rgn {id : Nat} {a : Act} {w : World} (L Ts : List Nat) (h : Ex w L w.drew → wpAnyT P .any ops Q (Ex w L) Ts.contains ops.size (Array.replicate ops.size false) a w.drew) (hm : P.follows .mixedOrders = true := by kernel_rfl) : (Code.region id ops true).wp P Q a w := region_t hm L Ts.contains h
theorem tk (i : Nat) {oi : Oper} {v : Value} {fuel : Nat} {listed : Array Bool} {a a' : Act} {w : World} (hS : Ex w0 L w) (h : wpAnyT P md ops Q (Ex w0 L) Ts.contains fuel (listed.setIfInBounds i true) a' w)
    (hi : ops[i]? = some oi := by simp; rfl) (hs : Region.noSelect ops = true := by kernel_rfl) (hf : Region.free md ops listed i = true := by kernel_rfl) (hr : (Region.ready md ops listed).contains i = true := by kernel_rfl)
    (hQ : ∀ c a w, Q (.panic c) (a.put oi.dst v) w → Q (.panic c) a w := by exact fun _ _ _ h => h) (hT : (Ts.all fun j => waits md ops i j) = true := by kernel_rfl) (hw : Region.wanted oi (yielded ops a.tmps) = true := by rfl)
    (hy : ∀ wx, Ex w0 L wx → (execOp a.eval oi).run P wx = .ok (.value v) wx := by (intro wx hSw; have hSx := Ex1.mk hSw; go_simp; try with_reducible rfl))
    (ha : a.put oi.dst v = a' := by (simp only [Act.put, List.setIfInBounds_toArray, List.set_cons_zero, List.set_cons_succ]; first | done | rfl)) : wpAnyT P md ops Q (Ex w0 L) Ts.contains (fuel + 1) listed a w := by
  subst ha; exact wpAnyT_take hi hs hf hr hQ (T_waits hT) (Or.inl ⟨hw, hy⟩) hS h
/-- One that its guard passes over. -/
theorem tkU (i : Nat) {oi : Oper} {fuel : Nat} {listed : Array Bool} {a a' : Act} {w : World} (hS : Ex w0 L w) (h : wpAnyT P md ops Q (Ex w0 L) Ts.contains fuel (listed.setIfInBounds i true) a' w)
    (hi : ops[i]? = some oi := by simp; rfl) (hs : Region.noSelect ops = true := by kernel_rfl) (hf : Region.free md ops listed i = true := by kernel_rfl) (hr : (Region.ready md ops listed).contains i = true := by kernel_rfl)
    (hQ : ∀ c a w, Q (.panic c) (a.put oi.dst undef) w → Q (.panic c) a w := by exact fun _ _ _ h => h) (hT : (Ts.all fun j => waits md ops i j) = true := by kernel_rfl) (hw : Region.wanted oi (yielded ops a.tmps) = false := by rfl)
    (ha : a.put oi.dst undef = a' := by (simp only [Act.put, List.setIfInBounds_toArray, List.set_cons_zero, List.set_cons_succ]; first | done | rfl)) : wpAnyT P md ops Q (Ex w0 L) Ts.contains (fuel + 1) listed a w := by
  subst ha; exact wpAnyT_take hi hs hf hr hQ (T_waits hT) (Or.inr ⟨hw, rfl⟩) hS h
/-- A pure one of T. -/
theorem tk0 (i : Nat) {oi : Oper} {v : Value} {fuel : Nat} {listed : Array Bool} {a a' : Act} {w : World} (h : wpAnyT P md ops Q (Ex w0 L) Ts.contains fuel (listed.setIfInBounds i true) a' w)
    (hi : ops[i]? = some oi := by simp; rfl) (hs : Region.noSelect ops = true := by kernel_rfl) (hf : Region.free md ops listed i = true := by kernel_rfl) (hr : (Region.ready md ops listed).contains i = true := by kernel_rfl)
    (hQ : ∀ c a w, Q (.panic c) (a.put oi.dst v) w → Q (.panic c) a w := by exact fun _ _ _ h => h) (hTi : Ts.contains i = true := by rfl) (hw : Region.wanted oi (yielded ops a.tmps) = true := by rfl)
    (hy : ∀ wx, True → (execOp a.eval oi).run P wx = .ok (.value v) wx := by (intro wx _; go_simp; try with_reducible rfl))
    (ha : a.put oi.dst v = a' := by (simp only [Act.put, List.setIfInBounds_toArray, List.set_cons_zero, List.set_cons_succ]; first | done | rfl)) : wpAnyT P md ops Q (Ex w0 L) Ts.contains (fuel + 1) listed a w := by
  subst ha; exact wpAnyT_take0 hi hs hf hr hQ hTi (Or.inl ⟨hw, hy⟩) h
/-- The only one that may come up. -/
theorem st (i : Nat) {o : Oper} {fuel : Nat} {listed : Array Bool} {a : Act} {w : World}
    (h : ∀ K' : Act → World → Prop, Shut (∀ a w, (Ts.contains i = false → Ex w0 L w) → ((Ts.contains i = false → Ex w0 L w) → wpAnyT P md ops Q (Ex w0 L) Ts.contains fuel (listed.setIfInBounds i true) a w) → K' a w) → if Region.wanted o (yielded ops a.tmps) = true then Oper.wp P o a w K' Q else K' (a.put o.dst undef) w)
    (hr : Region.ready md ops listed = [i] := by kernel_rfl) (ho : ops[i]? = some o := by simp; rfl) : wpAnyT P md ops Q (Ex w0 L) Ts.contains (fuel + 1) listed a w := wpAnyT_ready hr (by simp) (AllT.cons ho h AllT.nil)
theorem hd {K : Act → World → Prop} {i fuel : Nat} {listed : Array Bool} {a a' : Act} {w : World} (hK : Shut (∀ a w, (Ts.contains i = false → Ex w0 L w) → ((Ts.contains i = false → Ex w0 L w) → wpAnyT P md ops Q (Ex w0 L) Ts.contains fuel listed a w) → K a w)) [hS : Ex w0 L w]
    (h : Ex w0 L w → wpAnyT P md ops Q (Ex w0 L) Ts.contains fuel listed a' w) (ha : a = a' := by (try simp only [Act.put, List.setIfInBounds_toArray, List.set_cons_zero, List.set_cons_succ]); first | done | rfl) : K a w :=
  hK.out a w (fun _ => hS) (fun _ => by subst ha; exact h hS)
theorem hdT {K : Act → World → Prop} {i fuel : Nat} {listed : Array Bool} {a a' : Act} {w : World} (hK : Shut (∀ a w, (Ts.contains i = false → Ex w0 L w) → ((Ts.contains i = false → Ex w0 L w) → wpAnyT P md ops Q (Ex w0 L) Ts.contains fuel listed a w) → K a w))
    (h : wpAnyT P md ops Q (Ex w0 L) Ts.contains fuel listed a' w) (hTi : Ts.contains i = true := by rfl) (ha : a = a' := by (try simp only [Act.put, List.setIfInBounds_toArray, List.set_cons_zero, List.set_cons_succ]); first | done | rfl) : K a w :=
  hK.out a w (fun e => by rw [hTi] at e; cases e) (fun _ => by subst ha; exact h)
theorem dn {fuel : Nat} {listed : Array Bool} {a : Act} {w : World} (h : Q .normal a w) (hr : Region.ready md ops listed = [] := by kernel_rfl) : wpAnyT P md ops Q (Ex w0 L) Ts.contains fuel listed a w := wpAnyT_done hr h fuel
end
/-- The block q was made after w0: it is none of those that w0 had. -/
class Nw (w0 : outParam World) (q : Nat) : Prop where out : w0.heap.size ≤ q
instance LtN.nw {w0 : World} {b q : Nat} {t : TypeId} {l : List Value} [n : Nw w0 q] [h : Bx w0 b t l] : LtN b q := ⟨Nat.lt_of_lt_of_le h.lt n.out⟩
/-- A region, its first world by name. -/
theorem rgnW {P : Program} {ops : Array Oper} {Q : Exit → Act → World → Prop} {id : Nat} {a : Act} {w : World} (L Ts : List Nat) (h : ∀ w0, Hid (w0 = w) → Ex w L w.drew → wpAnyT P .any ops Q (Ex w L) Ts.contains ops.size (Array.replicate ops.size false) a w.drew) (hm : P.follows .mixedOrders = true := by kernel_rfl) : (Code.region id ops true).wp P Q a w := region_t hm L Ts.contains (h w (Lib.hid rfl))
theorem kpOf {w0 w : World} (e : Hid (w0 = w)) {W : World} [h : Kp w W] : Kp w0 W := by rw [e.out]; exact h
theorem ggOf {w0 w : World} (e : Hid (w0 = w)) {b : Nat} (h : Gg w0 b) : Gg w b := by rw [← e.out]; exact h
theorem nwOf {w0 w : World} (e : Hid (w0 = w)) {b : Nat} (h : Ge w0 b) : Nw w b := by rw [← e.out]; exact ⟨h.out⟩
end Go.Proofs.YtdlnoeegboapkaaGreatDoor

/- errors.Is at a sentinel of errors.New's make: of nil, and of an error of package api (after the kit's worked example 'sentry'). -/
namespace Go.Proofs.YtdlnoeegboapkaaGreatDoor
open Go.RowKit Go.Extern.Stop Go.Stop Go.Extern

theorem Tryz.isTypeOf (v : Value) (w : World) : (Extern.ReflectliteType.typeOf #[.iface 365 v]).run Tryz.prog w = .ok (.iface 217 (.agg #[.pointer (some ⟨10, 365, none⟩)])) w := by kernel_rfl
/-- The model's entry for (rtype).Comparable. -/
def cmpE : Array Value → Sem Value := Extern.ReflectliteType.method fun t => do Rtype.noPackHeld "Comparable" t; pure (.bool (← typeInfo t).comparable)
theorem Tryz.isComparable (w : World) : (cmpE #[.agg #[.pointer (some ⟨10, 365, none⟩)]]).run Tryz.prog w = .ok (.bool true) w := by kernel_rfl
theorem Tryz.isMethodComparable (v : Value) (w : World) : (Go.method 500 217 v "Comparable").run Tryz.prog w = .ok (324, v) w := by kernel_rfl
theorem Tryz.isComp : (Tryz.prog.info? 365).map (·.comparable) = some true := by kernel_rfl
theorem Tryz.isSize : (Tryz.prog.info? 388).map (·.size) = some 1 := by kernel_rfl
theorem Tryz.noIsE (v : Value) (xT : TypeId) (w : World) : (Instr.typeAssert (.iface 365 v) xT 219 true).run Tryz.prog w = .ok (.tuple #[.nilIface, .bool false]) w := run_typeAssert_lacksB Tryz.underlying219 (by kernel_rfl) (by kernel_rfl) v xT w
theorem Tryz.noUnwrapE (v : Value) (xT : TypeId) (w : World) : (Instr.typeAssert (.iface 365 v) xT 222 true).run Tryz.prog w = .ok (.tuple #[.nilIface, .bool false]) w := run_typeAssert_lacksB Tryz.underlying222 (by kernel_rfl) (by kernel_rfl) v xT w
theorem Tryz.noUnwrapsE (v : Value) (xT : TypeId) (w : World) : (Instr.typeAssert (.iface 365 v) xT 224 true).run Tryz.prog w = .ok (.tuple #[.nilIface, .bool false]) w := run_typeAssert_lacksB Tryz.underlying224 (by kernel_rfl) (by kernel_rfl) v xT w
theorem Tryz.noIsW (v : Value) (xT : TypeId) (w : World) : (Instr.typeAssert (.iface 114 v) xT 219 true).run Tryz.prog w = .ok (.tuple #[.nilIface, .bool false]) w := run_typeAssert_lacksB Tryz.underlying219 (by kernel_rfl) (by kernel_rfl) v xT w
theorem Tryz.hasUnwrapW (v : Value) (xT : TypeId) (w : World) : (Instr.typeAssert (.iface 114 v) xT 222 true).run Tryz.prog w = .ok (.tuple #[.iface 114 v, .bool true]) w := run_typeAssert_hasB Tryz.underlying222 (by kernel_rfl) v xT w
theorem Tryz.methodUnwrap (v : Value) (w : World) : (Go.method 500 114 v "Unwrap").run Tryz.prog w = .ok (319, v) w := by kernel_rfl

/-- errors.Is(nil, x). -/
theorem is_nil (b : Addr) (w : World) :
    Calls Tryz.prog 18 #[.nilIface, .iface 365 (.pointer (some b))] w fun e w' => e = .returned (.bool false) ∧ w = w' := by
  have hn := run_eql_iface_nil_left (P := Tryz.prog) w 365 (.pointer (some b)) Tryz.underlying36
  go_enter Tryz.func18, Tryz.ntmps18
  go_wp2
  go_ret
  exact ⟨rfl, rfl⟩

/-- errors.Is(e, x), e an error of package api whose kind is x itself. -/
theorem is_err_same (pb : Nat) (b : Addr) (w : World) (h1 : w.cell? ⟨pb, 0, none⟩ = some (.iface 365 (.pointer (some b)))) :
    Calls Tryz.prog 18 #[.iface 114 (.pointer (some ⟨pb, 0, none⟩)), .iface 365 (.pointer (some b))] w fun e w' => e = .returned (.bool true) ∧ w = w' := by
  obtain ⟨i, hi, hcmp⟩ := Option.map_eq_some_iff.1 Tryz.isComp
  obtain ⟨j, hj, hjs⟩ := Option.map_eq_some_iff.1 Tryz.isSize
  have h8 := @run_callFunc_extern Tryz.prog 70 _ Extern.ReflectliteType.typeOf Tryz.func70 (by kernel_rfl) (by kernel_rfl) (by kernel_rfl) (by kernel_rfl)
  have h32 := @run_callFunc_extern Tryz.prog 324 _ cmpE Tryz.func324 (by kernel_rfl) (by kernel_rfl) (by kernel_rfl) (by kernel_rfl)
  have tT := Tryz.isTypeOf
  have cT := Tryz.isComparable
  have mR := Tryz.isMethodComparable
  have nE := Tryz.noIsE
  have uE := Tryz.noUnwrapE
  have vE := Tryz.noUnwrapsE
  have nW := Tryz.noIsW
  have uW := Tryz.hasUnwrapW
  have mU := Tryz.methodUnwrap
  have heq := run_eql_iface_ptr_same (P := Tryz.prog) w b Tryz.underlying36 Tryz.underlying365 hi hcmp hj
  have hty := run_eql_iface_types (P := Tryz.prog) 114 365 (.pointer (some ⟨pb, 0, none⟩)) (.pointer (some b)) Tryz.underlying36 (by decide) w
  go_enter Tryz.func18, Tryz.ntmps18
  go_wp2
  refine wp_loop_rounds 2 ?_
  rw [rounds_succ]
  go_wp2
  rw [rounds_succ]
  go_wp2
  go_ret
  exact ⟨rfl, rfl⟩

/-- errors.Is(e, x), e an error of package api whose kind is another sentinel. -/
theorem is_err_other (pb : Nat) (b a : Addr) (ca cb : Array Value) (ta tb : TypeId) (w : World) (h1 : w.cell? ⟨pb, 0, none⟩ = some (.iface 365 (.pointer (some a)))) (hne : a ≠ b) (ha : w.heap[a.block]? = some (.cells ca ta (0, 0))) (hb : w.heap[b.block]? = some (.cells cb tb (0, 0))) :
    Calls Tryz.prog 18 #[.iface 114 (.pointer (some ⟨pb, 0, none⟩)), .iface 365 (.pointer (some b))] w fun e w' => e = .returned (.bool false) ∧ w = w' := by
  obtain ⟨i, hi, hcmp⟩ := Option.map_eq_some_iff.1 Tryz.isComp
  obtain ⟨j, hj, hjs⟩ := Option.map_eq_some_iff.1 Tryz.isSize
  have h8 := @run_callFunc_extern Tryz.prog 70 _ Extern.ReflectliteType.typeOf Tryz.func70 (by kernel_rfl) (by kernel_rfl) (by kernel_rfl) (by kernel_rfl)
  have h32 := @run_callFunc_extern Tryz.prog 324 _ cmpE Tryz.func324 (by kernel_rfl) (by kernel_rfl) (by kernel_rfl) (by kernel_rfl)
  have tT := Tryz.isTypeOf
  have cT := Tryz.isComparable
  have mR := Tryz.isMethodComparable
  have nE := Tryz.noIsE
  have uE := Tryz.noUnwrapE
  have vE := Tryz.noUnwrapsE
  have nW := Tryz.noIsW
  have uW := Tryz.hasUnwrapW
  have mU := Tryz.methodUnwrap
  have heq := run_eql_iface_ptr_other (P := Tryz.prog) w Tryz.underlying36 Tryz.underlying365 hi hcmp hj (by rw [hjs]; decide) hne ha hb
  have hty := run_eql_iface_types (P := Tryz.prog) 114 365 (.pointer (some ⟨pb, 0, none⟩)) (.pointer (some b)) Tryz.underlying36 (by decide) w
  go_enter Tryz.func18, Tryz.ntmps18
  go_wp2
  refine wp_loop_rounds 2 ?_
  rw [rounds_succ]
  go_wp2
  rw [rounds_succ]
  go_wp2
  go_ret
  exact ⟨rfl, rfl⟩
end Go.Proofs.YtdlnoeegboapkaaGreatDoor

/- Sentinels of package api in memory, as a class: the variable g holds a pointer to an error of errors.New's make; both lie below what the world w0 held. errors.Is in these words. -/
namespace Go.Proofs.YtdlnoeegboapkaaGreatDoor
open Go.RowKit

instance : BoxT 116 := by constructor <;> decide
instance {t : TypeId} {v : Value} : Ndg (.iface t v) := ⟨rfl⟩
instance : Ndg .nilIface := ⟨rfl⟩
instance {s : ByteArray} : Ndg (.string s) := ⟨rfl⟩
/-- The variable g holds the sentinel at a. -/
class Snt (W : World) (g : Nat) (a : outParam Addr) (w0 : outParam World) : Prop where
  cell : W.cell? ⟨g, 0, none⟩ = some (.iface 365 (.pointer (some a)))
  row : ∃ c t, W.heap[a.block]? = some (.cells c t (0, 0))
  lt : g < w0.heap.size ∧ a.block < w0.heap.size
  ltW : g < W.heap.size ∧ a.block < W.heap.size
theorem Snt.mk1 {W : World} {g : Nat} {a : Addr} (h1 : W.cell? ⟨g, 0, none⟩ = some (.iface 365 (.pointer (some a)))) (h2 : ∃ c t, W.heap[a.block]? = some (.cells c t (0, 0))) : Snt W g a W := by
  obtain ⟨c, t, h⟩ := h2
  exact ⟨h1, ⟨c, t, h⟩, ⟨lt_of_cell h1, heap_lt h⟩, ⟨lt_of_cell h1, heap_lt h⟩⟩
theorem Snt.here {W w0 : World} {g : Nat} {a : Addr} (h : Snt W g a w0) : Snt W g a W := ⟨h.cell, h.row, h.ltW, h.ltW⟩
theorem Snt.keep {W W2 w0 : World} {g : Nat} {a : Addr} (h : Snt W g a w0) (hs : W.heap.size ≤ W2.heap.size) (hg : W2.heap[g]? = W.heap[g]?) (ha : W2.heap[a.block]? = W.heap[a.block]?) : Snt W2 g a w0 := by
  refine ⟨?_, ?_, h.lt, ⟨Nat.lt_of_lt_of_le h.ltW.1 hs, Nat.lt_of_lt_of_le h.ltW.2 hs⟩⟩
  · have := h.cell
    unfold World.cell? at this ⊢
    simp only [hg]; exact this
  · rw [ha]; exact h.row
instance Snt.al {W w0 : World} {g : Nat} {a : Addr} {o : Obj} [h : Snt W g a w0] : Snt (W.alloc o) g a w0 := h.keep (by rw [World.size_alloc]; omega) (heap_al_lt h.ltW.1) (heap_al_lt h.ltW.2)
instance Snt.dr {W w0 : World} {g : Nat} {a : Addr} [h : Snt W g a w0] : Snt W.drew g a w0 := h.keep (Nat.le_refl _) rfl rfl
instance Snt.drN {W w0 : World} {g j : Nat} {a : Addr} [h : Snt W g a w0] : Snt (W.drewN j) g a w0 := h.keep (Nat.le_refl _) rfl rfl
instance (priority := low) Snt.kp {W W2 w0 : World} {g : Nat} {a : Addr} [k : Kp1 W W2] [h : Snt W g a w0] : Snt W2 g a w0 := h.keep k.out.size (k.out.block _ h.ltW.1) (k.out.block _ h.ltW.2)
instance (priority := low) Snt.tp {W W2 w0 : World} {g g' : Nat} {a : Addr} [k : Tp1 W W2 g'] [h : Snt W g a w0] [n : Ge w0 g'] : Snt W2 g a w0 := h.keep k.gb.size
  (k.gb.block _ h.ltW.1 (fun e => by injection e with e; have := n.out; have := h.lt.1; omega)) (k.gb.block _ h.ltW.2 (fun e => by injection e with e; have := n.out; have := h.lt.2; omega))
instance Snt.st {W w0 : World} {g q i : Nat} {a : Addr} {x : Value} [h : Snt W g a w0] [n : Ge w0 q] : Snt (W.setCell ⟨q, i, none⟩ x) g a w0 := h.keep (by rw [World.size_setCell]; omega)
  (by simp only [World.setCell, Array.getElem?_modify]; rw [if_neg (by have := n.out; have := h.lt.1; omega)])
  (by simp only [World.setCell, Array.getElem?_modify]; rw [if_neg (by have := n.out; have := h.lt.2; omega)])
/-- All blocks of the list lie behind what w0 held. -/
class GeL (w0 : World) (L : List Nat) : Prop where out : ∀ q ∈ L, w0.heap.size ≤ q
instance GeL.nil {w0 : World} : GeL w0 [] := ⟨fun _ h => nomatch h⟩
instance GeL.cons {w0 : World} {q : Nat} {L : List Nat} [h1 : Ge w0 q] [h2 : GeL w0 L] : GeL w0 (q :: L) := ⟨fun x h => by
  rcases List.mem_cons.1 h with rfl | h
  · exact h1.out
  · exact h2.out _ h⟩
instance (priority := low) Snt.ex {W0 W w0 : World} {L : List Nat} {g : Nat} {a : Addr} [e : Ex1 W0 L W] [h : Snt W0 g a w0] [n : GeL w0 L] : Snt W g a w0 := h.keep e.out.size
  (e.out.block _ h.ltW.1 (fun hm => by have := n.out _ hm; have := h.lt.1; omega)) (e.out.block _ h.ltW.2 (fun hm => by have := n.out _ hm; have := h.lt.2; omega))
@[go_sem] theorem cell_snt {W w0 : World} {g : Nat} {a : Addr} [h : Snt W g a w0] : W.cell? ⟨g, 0, none⟩ = some (.iface 365 (.pointer (some a))) := h.cell
theorem isNilC {w : World} (a : Addr) : Calls Tryz.prog 18 #[.nilIface, .iface 365 (.pointer (some a))] w fun e w' => e = .returned (.bool false) ∧ w = w' := is_nil a w
theorem isSameC {w : World} {b : Nat} {a : Addr} {l c : Int} {s : ByteArray} [h : Bx w b 116 [.iface 365 (.pointer (some a)), .int .i64 l, .int .i64 c, .string s]] :
    Calls Tryz.prog 18 #[.iface 114 (.pointer (some ⟨b, 0, none⟩)), .iface 365 (.pointer (some a))] w fun e w' => e = .returned (.bool true) ∧ w = w' :=
  is_err_same b a w (by rw [cell_bx]; rfl)
theorem isOtherC {w w1 w2 : World} {b g1 g2 : Nat} {a a2 : Addr} {l c : Int} {s : ByteArray} [h : Bx w b 116 [.iface 365 (.pointer (some a)), .int .i64 l, .int .i64 c, .string s]] (h1 : Snt w g1 a w1) (h2 : Snt w g2 a2 w2) (hne : a ≠ a2) :
    Calls Tryz.prog 18 #[.iface 114 (.pointer (some ⟨b, 0, none⟩)), .iface 365 (.pointer (some a2))] w fun e w' => e = .returned (.bool false) ∧ w = w' := by
  obtain ⟨c1, t1, e1⟩ := h1.row
  obtain ⟨c2, t2, e2⟩ := h2.row
  exact is_err_other b a2 a c1 c2 t1 t2 w (by rw [cell_bx]; rfl) hne e1 e2
end Go.Proofs.YtdlnoeegboapkaaGreatDoor

/- Rows of the call's own that grow by append, as a class; what an append leaves as it was. -/
namespace Go.Proofs.YtdlnoeegboapkaaGreatDoor
open Go.RowKit

/-- The slice v is a row of the call's own, of n elements of sz cells each; its block lies from base on, and below what w0 held. -/
class Rw (W : World) (v : Value) (e : outParam TypeId) (sz : outParam Nat) (n : outParam Nat) (xs : outParam (List Value)) (base : outParam Nat) (w0 : outParam World) : Prop where
  out : W.ownsRow base e sz v n xs
  lt : ∀ g, v.ownBlock = some g → g < w0.heap.size
  ltW : ∀ g, v.ownBlock = some g → g < W.heap.size
  hb : base ≤ W.heap.size
theorem Rw.mk1 {W : World} {v : Value} {e : TypeId} {sz n base : Nat} {xs : List Value} (h : W.ownsRow base e sz v n xs) (hb : base ≤ W.heap.size) : Rw W v e sz n xs base W := ⟨h, fun g e => (h.lt g e).2, fun g e => (h.lt g e).2, hb⟩
theorem Rw.here {W w0 : World} {v : Value} {e : TypeId} {sz n base : Nat} {xs : List Value} (h : Rw W v e sz n xs base w0) : Rw W v e sz n xs base W := ⟨h.out, h.ltW, h.ltW, h.hb⟩
theorem Rw.nil {W : World} {e : TypeId} {sz base : Nat} (hb : base ≤ W.heap.size) : Rw W (.slice none 0 0) e sz 0 [] base W := Rw.mk1 (World.ownsRow_nil _ _ _ _) hb
theorem Rw.keep {W W2 w0 : World} {v : Value} {e : TypeId} {sz n base : Nat} {xs : List Value} (h : Rw W v e sz n xs base w0) (hs : W.heap.size ≤ W2.heap.size) (hb : ∀ g, v.ownBlock = some g → W2.heap[g]? = W.heap[g]?) : Rw W2 v e sz n xs base w0 := by
  refine ⟨?_, h.lt, fun g e => Nat.lt_of_lt_of_le (h.ltW g e) hs, Nat.le_trans h.hb hs⟩
  obtain ⟨h1, h2⟩ := h.out
  refine ⟨h1, ?_⟩
  rcases h2 with hn | ⟨g, cap, cur, rfl, hbg, hgg, rest⟩
  · exact .inl hn
  · exact .inr ⟨g, cap, cur, rfl, hbg, by rw [hb g rfl]; exact hgg, rest⟩
instance Rw.al {W w0 : World} {v : Value} {e : TypeId} {sz n base : Nat} {xs : List Value} {o : Obj} [h : Rw W v e sz n xs base w0] : Rw (W.alloc o) v e sz n xs base w0 := h.keep (by rw [World.size_alloc]; omega) (fun g e => heap_al_lt (h.ltW g e))
instance Rw.dr {W w0 : World} {v : Value} {e : TypeId} {sz n base : Nat} {xs : List Value} [h : Rw W v e sz n xs base w0] : Rw W.drew v e sz n xs base w0 := h.keep (Nat.le_refl _) (fun _ _ => rfl)
instance Rw.drN {W w0 : World} {v : Value} {e : TypeId} {sz n base : Nat} {xs : List Value} {j : Nat} [h : Rw W v e sz n xs base w0] : Rw (W.drewN j) v e sz n xs base w0 := h.keep (Nat.le_refl _) (fun _ _ => rfl)
instance (priority := low) Rw.kp {W W2 w0 : World} {v : Value} {e : TypeId} {sz n base : Nat} {xs : List Value} [k : Kp1 W W2] [h : Rw W v e sz n xs base w0] : Rw W2 v e sz n xs base w0 := h.keep k.out.size (fun g e => k.out.block _ (h.ltW g e))
instance (priority := low) Rw.tp {W W2 w0 : World} {v : Value} {e : TypeId} {sz n base : Nat} {xs : List Value} {q : Nat} [k : Tp1 W W2 q] [h : Rw W v e sz n xs base w0] [l : LtN q base] : Rw W2 v e sz n xs base w0 := h.keep k.gb.size
  (fun g e => k.gb.block _ (h.ltW g e) (fun x => by injection x with x; have := l.out; have := (h.out.lt g e).1; omega))
instance Rw.st {W w0 : World} {v : Value} {e : TypeId} {sz n base : Nat} {xs : List Value} {q i : Nat} {x : Value} [h : Rw W v e sz n xs base w0] [l : Ge w0 q] : Rw (W.setCell ⟨q, i, none⟩ x) v e sz n xs base w0 := h.keep (by rw [World.size_setCell]; omega)
  (fun g e => by simp only [World.setCell, Array.getElem?_modify]; rw [if_neg (by have := l.out; have := h.lt g e; omega)])
instance Rw.st2 {W w0 : World} {v : Value} {e : TypeId} {sz n base : Nat} {xs : List Value} {q i : Nat} {x : Value} [h : Rw W v e sz n xs base w0] [l : LtN q base] : Rw (W.setCell ⟨q, i, none⟩ x) v e sz n xs base w0 := h.keep (by rw [World.size_setCell]; omega)
  (fun g e => by simp only [World.setCell, Array.getElem?_modify]; rw [if_neg (by have := l.out; have := (h.out.lt g e).1; omega)])
instance (priority := low) Rw.ex {W0 W w0 : World} {L : List Nat} {v : Value} {e : TypeId} {sz n base : Nat} {xs : List Value} [k : Ex1 W0 L W] [h : Rw W0 v e sz n xs base w0] [l : GeL w0 L] : Rw W v e sz n xs base w0 := h.keep k.out.size
  (fun g e => k.out.block _ (h.ltW g e) (fun hm => by have := l.out _ hm; have := h.lt g e; omega))
theorem Rw.cast {W w0 : World} {v : Value} {e : TypeId} {sz n n' base : Nat} {xs xs' : List Value} (h : Rw W v e sz n xs base w0) (e1 : n = n') (e2 : xs = xs') : Rw W v e sz n' xs' base w0 := by subst e1; subst e2; exact h
/-- From W to W2 a row has been appended to: its block lies from base on and below what w0 held; else only new memory was written. -/
class Ap1 (W : outParam World) (W2 : World) (base : outParam Nat) (w0 : outParam World) : Prop where out : ∃ row : Option Nat, W.grownBy W2 row ∧ ∀ k, row = some k → base ≤ k ∧ k < w0.heap.size
theorem Ap1.size {W W2 w0 : World} {base : Nat} (h : Ap1 W W2 base w0) : W.heap.size ≤ W2.heap.size := by obtain ⟨_, h, _⟩ := h.out; exact h.size
theorem Ap1.block {W W2 w0 : World} {base : Nat} (h : Ap1 W W2 base w0) {b : Nat} (hb : b < W.heap.size) (hn : b < base ∨ w0.heap.size ≤ b) : W2.heap[b]? = W.heap[b]? := by
  obtain ⟨row, h, hk⟩ := h.out
  exact h.block b hb (fun e => by have := hk b e.symm; omega)
instance (priority := low) Bx.ap {W W2 w0 : World} {base b : Nat} {t : TypeId} {l : List Value} [k : Ap1 W W2 base w0] [h : Bx W b t l] [n : LtN b base] : Bx W2 b t l := ⟨by rw [k.block h.lt (.inl n.out)]; exact h.out⟩
instance (priority := low) Bx.ap2 {W W2 w0 : World} {base b : Nat} {t : TypeId} {l : List Value} [k : Ap1 W W2 base w0] [h : Bx W b t l] [n : Ge w0 b] : Bx W2 b t l := ⟨by rw [k.block h.lt (.inr n.out)]; exact h.out⟩
instance (priority := low) Kp.ap {w W W2 w0 : World} {base : Nat} [k : Ap1 W W2 base w0] [h : Kp w W] [n : Ge w base] : Kp w W2 := ⟨by
  obtain ⟨row, hg, hk⟩ := k.out
  exact h.out.grown hg h.out.size (fun x e => Nat.le_trans n.out (hk x e).1)⟩
instance (priority := low) Kz.ap {w W W2 w0 : World} {base : Nat} [k : Ap1 W W2 base w0] [h : Kz w W] : Kz w W2 := ⟨Nat.le_trans h.out k.size⟩
/-- append of one element that lies in a box. -/
theorem app_rw {W w0 : World} {ops : Array Oper} {rest : List Oper} {o : Oper} {a : Act} {Q : Exit → Act → World → Prop} (hg : o.guard = none) (s x : Operand) (t : TypeId)
    (hop : o.op = .call { callee := .builtin .append, args := #[s, x], argTypes := #[t, t] }) {e : TypeId} (ht : Tryz.prog.underlying t = some (.slice e)) {z : Value} {sz bt : Nat}
    (hi : (Tryz.prog.info? e).map (fun i => (i.zero, i.size, i.bytes)) = some (some z, sz, bt)) (hzs : z.cells.size = sz) (hsz : 0 < sz) (hbt : bt ≤ 1000) {v : Value} {n : Nat} {xs : List Value} {base : Nat} (hs : a.eval s = v) [hr : Rw W v e sz n xs base w0]
    {q : Nat} {ety : TypeId} {l : List Value} (hx : a.eval x = .slice (some ⟨q, 0, none⟩) 1 1) [hb : Bx W q ety l] (hl : l.length = sz) (h1 : ∀ u ∈ l, u.oneCell' = true) (hn : n ≤ 1000000)
    (hK : ∀ g c W' [Ap1 W W' base w0] [Rw W' (.slice (some ⟨g, 0, none⟩) (n + 1) c) e sz (n + 1) (xs ++ l) base W'], wpList Tryz.prog ops Q rest (a.put o.dst (.slice (some ⟨g, 0, none⟩) (n + 1) c)) W') :
    wpList Tryz.prog ops Q (o :: rest) a W := by
  obtain ⟨i0, hi0⟩ : ∃ i0, Tryz.prog.info? e = some i0 := by
    cases h : Tryz.prog.info? e with
    | none => rw [h] at hi; cases hi
    | some i0 => exact ⟨i0, rfl⟩
  rw [hi0] at hi
  simp only [Option.map_some, Option.some.injEq, Prod.mk.injEq] at hi
  obtain ⟨hz0, hz1, hz2⟩ := hi
  refine wpList_append_own _ hg s x t hop base e i0 z sz bt ht hi0 hz0 hz1 hz2 hzs hsz v n xs hs hr.out ⟨q, 0, none⟩ 1 1 l hx (by omega) (fun j u hu => ?_) h1 (by unfold maxLen; omega) ?_ hr.hb ?_
  · have hadd : (⟨q, 0, none⟩ : Addr).add j = ⟨q, j, none⟩ := by unfold Addr.add; split <;> simp_all
    rw [hadd, cell_bx]; exact hu
  · have : (n + 1) * bt ≤ 1000001 * 1000 := Nat.mul_le_mul (by omega) hbt
    omega
  · intro v' w' h2 h3 h4
    have hne : v' ≠ .slice none 0 0 := fun e => absurd (h4.1 e).2 (by decide)
    rcases h2.2 with ⟨e', _⟩ | ⟨g, cap, cur, e', _⟩
    · exact absurd e' hne
    · subst e'
      have i1 : Ap1 W w' base w0 := ⟨⟨_, h3, fun k hk => ⟨(hr.out.lt k hk).1, hr.lt k hk⟩⟩⟩
      exact @hK g cap w' i1 (Rw.mk1 h2 (Nat.le_trans hr.hb h3.size))
end Go.Proofs.YtdlnoeegboapkaaGreatDoor

/- The reference's Common and Root (package bspregionnum). -/
namespace Go.Proofs.YtdlnoeegboapkaaGreatDoor
open Go.RowKit
set_option maxRecDepth 100000
set_option maxHeartbeats 40000000
set_option synthInstance.maxSize 100000
set_option synthInstance.maxHeartbeats 1000000

theorem gcd_len {m n k : Nat} (h1 : (nf m).length ≤ k) (h2 : (nf n).length ≤ k) : (nf (Nat.gcd m n)).length ≤ k := by
  by_cases h0 : m = 0
  · subst h0; rw [Nat.gcd_zero_left]; exact h2
  · exact len_le (Nat.gcd_le_left _ (Nat.pos_of_ne_zero h0)) h1
theorem commonW {w : World} {u v : Value} {m n k1 k2 : Nat} (hu : Nn w u m k1) (hv : Nn w v n k2) (hk1 : k1 ≤ 200000) (hk2 : k2 ≤ 200000) :
    Calls Tryz.prog 138 #[u, v] w (RetN w (Nat.gcd m n) (max k1 k2)) := by
  obtain ⟨a1, c1, rfl⟩ := hu.1.sl
  obtain ⟨a2, c2, rfl⟩ := hv.1.sl
  have hl1 := Nat.le_trans hu.2 (Nat.le_max_left k1 k2)
  have hl2 := Nat.le_trans hv.2 (Nat.le_max_right k1 k2)
  have hK : max k1 k2 ≤ 200000 := by omega
  have HGL := Lib.hid (gcd_len hl1 hl2)
  have HL1 := Lib.hid hl1
  have HL2 := Lib.hid hl2
  have CW := Lib.hid (numWord2W hu)
  have CV := Lib.hid (fun (W : World) (h : Below w.heap.size w W) => numWord2W (hv.keep h))
  have HU := Lib.hid hu.1
  have HV := Lib.hid hv.1
  clear hu hv hl1 hl2 hk1 hk2
  generalize max k1 k2 = K at *
  by_cases hs : m < 18446744073709551616 ∧ n < 18446744073709551616
  · obtain ⟨hm1, hn1⟩ := hs
    have HU1 := Lib.hid (uintV_lt hm1)
    have HU2 := Lib.hid (uintV_lt hn1)
    go_enter Tryz.func138, Tryz.ntmps138
    go_wp2_with fail
    refine CW.out.mono ?_
    rintro e w1 ⟨rfl, j1, rfl⟩
    rw [HU1.out]
    go_wp2_with fail
    refine (CV.out _ (blw_drewN (Below.refl _ _) _)).mono ?_
    rintro e w2 ⟨rfl, j2, rfl⟩
    rw [HU2.out]
    have B1 := Lib.hid (show Below w.heap.size w (w.drewN (j1 + j2)) from blw_drewN (Below.refl _ _) _)
    go_wp2_with fail
    generalize w.drewN (j1 + j2) = w1 at *
    go_loopw [5, 7] (fun x y wx => ∃ a b : Int, x = .int .u64 a ∧ y = .int .u64 b ∧ 0 ≤ a ∧ a < 18446744073709551616 ∧ 0 ≤ b ∧ b < 18446744073709551616 ∧ Hid (Below w.heap.size w wx) ∧ Hid (Nat.gcd a.toNat b.toNat = Nat.gcd m n)) (fun _ y _ => (intOf y).toNat)
    case atStart => exact ⟨(m : Int), (n : Int), rfl, rfl, by omega, by omega, by omega, by omega, B1, rfl⟩
    case round =>
      obtain ⟨a, b, rfl, rfl, ha0, ha, hb0, hb, hW2, hG2⟩ := hrel
      by_cases h0 : b = 0
      · have HE : Hid (a.toNat = Nat.gcd m n) := by show _ = _; rw [← hG2.out, h0]; simp
        subst h0
        go_wp2_with fail
        refine (wordZ _ _ a.toNat (by omega) (by omega)).mono ?_
        rintro e w4 ⟨z, rfl, hz, b4⟩
        go_wp2
        go_ret
        rw [HE.out] at hz
        exact .mk (.of_own hz HGL.out) (blw_trans hW2.out b4)
      · obtain ⟨g1, g2⟩ := gcd_step (by omega : b.toNat ≠ 0) hG2.out
        have HG := Lib.hid g1
        have HL := Lib.hid g2
        have hb1 : 0 < b := by omega
        have e2 : a % b = ((a.toNat % b.toNat : Nat) : Int) := by rw [Int.natCast_emod, Int.toNat_of_nonneg ha0, Int.toNat_of_nonneg hb0]
        have E2 := Lib.hid e2
        have e3 : (a % b).toNat = a.toNat % b.toNat := by rw [e2]; rfl
        have E3 := Lib.hid e3
        clear g1 g2 e2 e3 h0
        go_wp2_with fail
        have hq1 : (1 : Int) ≤ b := by omega
        have hq0 : (b == 0) = false := by rw [beq_eq_false_iff_ne]; omega
        have hqz : ¬ (b = 0) := by omega
        have m1 := Int.emod_nonneg a hqz
        have m2 := Int.emod_lt_of_pos a hb1
        have em : a.tmod b = a % b := Int.tmod_eq_emod_of_nonneg ha0
        go_quiet (fail)
        go_wp2_with fail
        go_roundw
        case rel => exact ⟨b, a % b, rfl, by first | rfl | rw [em], by omega, by omega, m1, by omega, blw_drewN hW2.out _, by show _ = _; rw [E3.out]; exact HG.out⟩
        case measure => simp only [intOf]; first | (rw [E3.out]; exact HL.out) | (rw [em, E3.out]; exact HL.out)
  · have hs : 18446744073709551616 ≤ m ∨ (m < 18446744073709551616 ∧ 18446744073709551616 ≤ n) := by omega
    go_enter Tryz.func138, Tryz.ntmps138
    rcases hs with hs | ⟨hs1, hs2⟩
    · have HU1 := Lib.hid (uintV_ge hs)
      clear hs
      go_wp2_with fail
      refine CW.out.mono ?_
      rintro e w1 ⟨rfl, j1, rfl⟩
      rw [HU1.out]
      have B1 := Lib.hid (show Below w.heap.size w (w.drewN j1) from blw_drewN (Below.refl _ _) _)
      generalize w.drewN j1 = w1 at *
      go_wp2_with fail
      go_loopw [0, 1] (fun x y wr => ∃ p q : Nat, Hid (∃ a l c, x = .slice a l c ∧ Rd wr (.slice a l c) (nf p)) ∧ Hid (∃ a l c, y = .slice a l c ∧ Rd wr (.slice a l c) (nf q)) ∧ Hid (Below w.heap.size w wr) ∧ Hid (Nat.gcd p q = Nat.gcd m n) ∧ Hid ((nf p).length ≤ K) ∧ Hid ((nf q).length ≤ K)) (fun _ y wr => rdVal wr y)
      case atStart => exact ⟨m, n, ⟨_, _, _, rfl, HU.out.keep B1.out⟩, ⟨_, _, _, rfl, HV.out.keep B1.out⟩, B1, rfl, HL1, HL2⟩
      case round =>
        obtain ⟨p, q, hP, hQ, hW, hG, hlp, hlq⟩ := hrel
        obtain ⟨ax, lx, cx, rfl, hx⟩ := hP.out
        obtain ⟨ay, ly, cy, rfl, hy⟩ := hQ.out
        have HX := Lib.hid hx
        have HY := Lib.hid hy
        have hly := hy.len
        clear hP hQ hx hy
        by_cases h0 : q = 0
        · have HE : Hid (p = Nat.gcd m n) := by show _ = _; rw [← hG.out, h0, Nat.gcd_zero_right]
          have hz : ¬ ((0 : Int) < (ly : Int)) := by rw [hly, h0]; decide
          have HLP := Lib.hid hlp.out
          clear h0 hly
          go_wp2_with (at_builtin; go_loud (refine app_u32 _ rfl (.tmp 42) (.tmp 43) 41 41 rfl Tryz.underlying41 Tryz.underlying41 wr.heap.size _ _ [] (nf p) rfl rfl (own_lit wr [] dig_nil (by simp) _ rfl) (HX.out.keep (blw_one _ _)) (by have := HLP.out; simp; omega) (by simp) ?_); intro v1 w3 o1 g1 _)
          have B3 := own_grown (own_lit wr [] dig_nil (by simp) _ rfl) (blw_one _ _) g1 (Nat.le_refl _)
          go_ret
          rw [List.nil_append, HE.out] at o1
          exact .mk (.of_own o1 HGL.out) (blw_trans hW.out B3)
        · have hz : (0 : Int) < (ly : Int) := by rw [hly]; have := nf_len_pos h0; omega
          obtain ⟨g1, g2⟩ := gcd_step h0 hG.out
          have HG := Lib.hid g1
          have HL := Lib.hid g2
          have CD := Lib.hid (divideW (w := wr) ⟨HX.out, hlp.out⟩ ⟨HY.out, hlq.out⟩ h0 hK)
          clear g1 g2 h0 hly
          go_wp2_with fail
          refine CD.out.mono ?_
          rintro e w3 ⟨aq, lq, cq, ar, lr, cr, rfl, _, hr, b3⟩
          have HR := Lib.hid hr.1
          have hV := rdVal_eq HY.out
          have hV2 := rdVal_eq hr.1
          rw [val_nf] at hV hV2
          have HV1 := Lib.hid hV
          have HV2 := Lib.hid hV2
          have HB3 := Lib.hid b3
          clear hr hV hV2 b3
          go_wp2_with fail
          go_roundw
          case rel => exact ⟨q, p % q, ⟨_, _, _, rfl, HY.out.keep HB3.out⟩, ⟨_, _, _, rfl, HR.out⟩, blw_trans hW.out HB3.out, HG, hlq, len_le (Nat.mod_le _ _) hlp.out⟩
          case measure => rw [HV1.out, HV2.out]; exact HL.out
    · have HU1 := Lib.hid (uintV_lt hs1)
      have HU2 := Lib.hid (uintV_ge hs2)
      clear hs1 hs2
      go_wp2_with fail
      refine CW.out.mono ?_
      rintro e w1 ⟨rfl, j1, rfl⟩
      rw [HU1.out]
      go_wp2_with fail
      refine (CV.out _ (blw_drewN (Below.refl _ _) _)).mono ?_
      rintro e w2 ⟨rfl, j2, rfl⟩
      rw [HU2.out]
      have B1 := Lib.hid (show Below w.heap.size w (w.drewN (j1 + j2)) from blw_drewN (Below.refl _ _) _)
      go_wp2_with fail
      generalize w.drewN (j1 + j2) = w1 at *
      go_wp2_with fail
      go_loopw [0, 1] (fun x y wr => ∃ p q : Nat, Hid (∃ a l c, x = .slice a l c ∧ Rd wr (.slice a l c) (nf p)) ∧ Hid (∃ a l c, y = .slice a l c ∧ Rd wr (.slice a l c) (nf q)) ∧ Hid (Below w.heap.size w wr) ∧ Hid (Nat.gcd p q = Nat.gcd m n) ∧ Hid ((nf p).length ≤ K) ∧ Hid ((nf q).length ≤ K)) (fun _ y wr => rdVal wr y)
      case atStart => exact ⟨m, n, ⟨_, _, _, rfl, HU.out.keep B1.out⟩, ⟨_, _, _, rfl, HV.out.keep B1.out⟩, B1, rfl, HL1, HL2⟩
      case round =>
        obtain ⟨p, q, hP, hQ, hW, hG, hlp, hlq⟩ := hrel
        obtain ⟨ax, lx, cx, rfl, hx⟩ := hP.out
        obtain ⟨ay, ly, cy, rfl, hy⟩ := hQ.out
        have HX := Lib.hid hx
        have HY := Lib.hid hy
        have hly := hy.len
        clear hP hQ hx hy
        by_cases h0 : q = 0
        · have HE : Hid (p = Nat.gcd m n) := by show _ = _; rw [← hG.out, h0, Nat.gcd_zero_right]
          have hz : ¬ ((0 : Int) < (ly : Int)) := by rw [hly, h0]; decide
          have HLP := Lib.hid hlp.out
          clear h0 hly
          go_wp2_with (at_builtin; go_loud (refine app_u32 _ rfl (.tmp 42) (.tmp 43) 41 41 rfl Tryz.underlying41 Tryz.underlying41 wr.heap.size _ _ [] (nf p) rfl rfl (own_lit wr [] dig_nil (by simp) _ rfl) (HX.out.keep (blw_one _ _)) (by have := HLP.out; simp; omega) (by simp) ?_); intro v1 w3 o1 g1 _)
          have B3 := own_grown (own_lit wr [] dig_nil (by simp) _ rfl) (blw_one _ _) g1 (Nat.le_refl _)
          go_ret
          rw [List.nil_append, HE.out] at o1
          exact .mk (.of_own o1 HGL.out) (blw_trans hW.out B3)
        · have hz : (0 : Int) < (ly : Int) := by rw [hly]; have := nf_len_pos h0; omega
          obtain ⟨g1, g2⟩ := gcd_step h0 hG.out
          have HG := Lib.hid g1
          have HL := Lib.hid g2
          have CD := Lib.hid (divideW (w := wr) ⟨HX.out, hlp.out⟩ ⟨HY.out, hlq.out⟩ h0 hK)
          clear g1 g2 h0 hly
          go_wp2_with fail
          refine CD.out.mono ?_
          rintro e w3 ⟨aq, lq, cq, ar, lr, cr, rfl, _, hr, b3⟩
          have HR := Lib.hid hr.1
          have hV := rdVal_eq HY.out
          have hV2 := rdVal_eq hr.1
          rw [val_nf] at hV hV2
          have HV1 := Lib.hid hV
          have HV2 := Lib.hid hV2
          have HB3 := Lib.hid b3
          clear hr hV hV2 b3
          go_wp2_with fail
          go_roundw
          case rel => exact ⟨q, p % q, ⟨_, _, _, rfl, HY.out.keep HB3.out⟩, ⟨_, _, _, rfl, HR.out⟩, blw_trans hW.out HB3.out, HG, hlq, len_le (Nat.mod_le _ _) hlp.out⟩
          case measure => rw [HV1.out, HV2.out]; exact HL.out

theorem root_start (m : Nat) : m < (0 + 2 ^ ((nbits m + 1) / 2 + 1)) * (0 + 2 ^ ((nbits m + 1) / 2 + 1)) := by
  rw [Nat.zero_add, ← Nat.pow_add]
  exact Nat.lt_of_lt_of_le (nbits_lt m) (Nat.pow_le_pow_right (by omega) (by omega))
theorem root_len {r m k : Nat} (h : r * r ≤ m) (hk : (nf m).length ≤ k) : (nf r).length ≤ k := by
  refine len_le ?_ hk
  rcases Nat.eq_zero_or_pos r with h0 | h0
  · omega
  · exact Nat.le_trans (Nat.le_mul_of_pos_left r h0) h
/-- A root is returned. -/
def RetRoot (w : World) (m k : Nat) (e : Ending) (w' : World) : Prop := ∃ r, IsRoot m r ∧ RetN w r k e w'
end Go.Proofs.YtdlnoeegboapkaaGreatDoor

/- The reference's integers and their conversions: contracts of bspregionnum.Make .. Floor and of bspregionref01. printed by a small program (mkint3.py). -/
namespace Go.Proofs.YtdlnoeegboapkaaGreatDoor
open Go.RowKit

theorem sgn_not {x : Int} : sgn (!decide (x < 0)) x.natAbs = -x := by
  unfold sgn
  by_cases h : x < 0 <;> simp [h] <;> omega
theorem sgn_mul {x y : Int} : sgn (decide (x < 0) != decide (y < 0)) (x.natAbs * y.natAbs) = x * y := by
  have h : sgn (decide (x < 0) != decide (y < 0)) (x.natAbs * y.natAbs) = sgn (decide (x < 0)) x.natAbs * sgn (decide (y < 0)) y.natAbs := by
    cases decide (x < 0) <;> cases decide (y < 0) <;> simp [sgn, Int.neg_mul, Int.mul_neg]
  rw [h, sgn_of, sgn_of]
theorem sgn_add {x y : Int} (h : decide (x < 0) = decide (y < 0)) : sgn (decide (x < 0)) (x.natAbs + y.natAbs) = x + y := by
  have h' : sgn (decide (x < 0)) (x.natAbs + y.natAbs) = sgn (decide (x < 0)) x.natAbs + sgn (decide (y < 0)) y.natAbs := by
    rw [h]; cases decide (y < 0) <;> simp [sgn] <;> omega
  rw [h', sgn_of, sgn_of]
theorem sgn_less {x y : Int} (h : decide (x < 0) ≠ decide (y < 0)) (hl : y.natAbs ≤ x.natAbs) : sgn (decide (x < 0)) (x.natAbs - y.natAbs) = x + y := by
  have h' : sgn (decide (x < 0)) (x.natAbs - y.natAbs) = sgn (decide (x < 0)) x.natAbs + sgn (decide (y < 0)) y.natAbs := by
    revert h; cases decide (x < 0) <;> cases decide (y < 0) <;> simp [sgn] <;> omega
  rw [h', sgn_of, sgn_of]
theorem cmpN_ltB {m n : Nat} (h : m < n) : (cmpN m n < 0) ↔ True := by rw [cmpN_lt h]; decide
theorem cmpN_geB {m n : Nat} (h : n ≤ m) : (cmpN m n < 0) ↔ False := by
  rcases Nat.lt_or_ge n m with h' | h'
  · rw [cmpN_gt h']; decide
  · rw [cmpN_eq (by omega)]; decide
end Go.Proofs.YtdlnoeegboapkaaGreatDoor
