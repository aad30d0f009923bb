/-
  Texts of this claim, joined: Inv, Ni, If.
-/
import Derived.Test.YtfdgglddldlpjaaGG
import Derived.Test.YtfdgglddldlpjaaGE
/- A region that draws its order, by an invariant: every operation of a list 'todo' is met once, whatever ran before it, and what an operation gives lasts. The number of goals is the number of operations, not of orders. -/
namespace Go.Proofs.Ytfdgglddldlpjaa
open Go.RowKit
section
variable {P : Program} {ops : Array Oper} {Q : Exit → Act → World → Prop} {md : Region.Mode} {S : World → Prop} {T : Nat → Bool}
def dstOf (ops : Array Oper) (i : Nat) : Option Tmp := (ops[i]?).bind (·.dst)
def putAll (f : Nat → Value) : List (Nat × Tmp) → Act → Act
  | [], a => a
  | p :: r, a => putAll f r (a.put (some p.2) (f p.1))
def upd (f : Nat → Value) (i : Nat) (v : Value) : Nat → Value := fun j => if j = i then v else f j
theorem put_put {a : Act} {d : Option Tmp} {x v : Value} : (a.put d x).put d v = a.put d v := by
  cases d with
  | none => rfl
  | some d => simp [Act.put]
theorem put_comm {a : Act} {d e : Option Tmp} {x v : Value} (h : d ≠ e) : (a.put d x).put e v = (a.put e v).put d x := by
  cases d with
  | none => rfl
  | some d =>
    cases e with
    | none => rfl
    | some e =>
      have hde : d ≠ e := fun h' => h (by rw [h'])
      simp only [Act.put]
      rw [Array.setIfInBounds_comm _ _ hde]
theorem putAll_put {f : Nat → Value} {d : Tmp} {v : Value} : ∀ (r : List (Nat × Tmp)) (a : Act), (∀ p ∈ r, p.2 ≠ d) → (putAll f r a).put (some d) v = putAll f r (a.put (some d) v)
  | [], _, _ => rfl
  | p :: r, a, h => by
    show (putAll f r _).put _ v = putAll f r _
    rw [putAll_put r _ (fun k hk => h k (List.mem_cons_of_mem _ hk)), put_comm (fun e => h p (List.mem_cons_self ..) (Option.some.inj e))]
theorem putAll_congr {f g : Nat → Value} : ∀ (r : List (Nat × Tmp)) (a : Act), (∀ p ∈ r, f p.1 = g p.1) → putAll f r a = putAll g r a
  | [], _, _ => rfl
  | p :: r, a, h => by
    show putAll f r _ = putAll g r _
    rw [h p (List.mem_cons_self ..), putAll_congr r _ (fun k hk => h k (List.mem_cons_of_mem _ hk))]
theorem putAll_upd {f : Nat → Value} {i : Nat} {d : Tmp} {v : Value} : ∀ (r : List (Nat × Tmp)) (a : Act), (r.map (·.2)).Nodup → (r.map (·.1)).Nodup → (i, d) ∈ r → (putAll f r a).put (some d) v = putAll (upd f i v) r a
  | [], _, _, _, hi => nomatch hi
  | p :: r, a, hn, hm, hi => by
    rw [List.map_cons, List.nodup_cons] at hn hm
    obtain ⟨hj, hn⟩ := hn
    obtain ⟨hk, hm⟩ := hm
    rcases List.mem_cons.1 hi with e | hi'
    · subst e
      have hne : ∀ k ∈ r, k.2 ≠ d := fun k hk' e => hj (List.mem_map.2 ⟨k, hk', e⟩)
      show (putAll f r _).put _ v = putAll (upd f i v) r _
      rw [putAll_put r _ hne, put_put, show upd f i v i = v from if_pos rfl]
      exact putAll_congr r _ (fun k hk' => (if_neg (fun e => hk (List.mem_map.2 ⟨k, hk', e⟩))).symm)
    · have hij : p.1 ≠ i := fun e => hk (List.mem_map.2 ⟨_, hi', e.symm⟩)
      show (putAll f r (a.put _ (f p.1))).put _ v = putAll (upd f i v) r (a.put _ (upd f i v p.1))
      rw [show upd f i v p.1 = f p.1 from if_neg hij]
      exact putAll_upd r _ hn hm hi'
theorem put_self (a : Act) (d : Tmp) : a.put (some d) (a.tmps.getD d undef) = a := by
  obtain ⟨t, ds⟩ := a
  simp only [Act.put, Act.mk.injEq, and_true]
  apply Array.ext_getElem?
  intro i
  rw [Array.getElem?_setIfInBounds]
  split
  · rename_i h
    subst h
    split
    · rename_i h; simp [h]
    · rename_i h; simp [h]
  · rfl
theorem putAll_self {f : Nat → Value} (a : Act) : ∀ r : List (Nat × Tmp), (∀ p ∈ r, f p.1 = a.tmps.getD p.2 undef) → putAll f r a = a
  | [], _ => rfl
  | p :: r, h => by
    show putAll f r (a.put (some p.2) (f p.1)) = a
    rw [h p (List.mem_cons_self ..), put_self]
    exact putAll_self a r (fun q hq => h q (List.mem_cons_of_mem _ hq))
/-- The value in the slot of an operation. -/
def slotOf (a : Act) : List (Nat × Tmp) → Nat → Value
  | [], _ => undef
  | p :: r, i => if i = p.1 then a.tmps.getD p.2 undef else slotOf a r i
theorem slotOf_eq (a : Act) : ∀ r : List (Nat × Tmp), (r.map (·.1)).Nodup → ∀ p ∈ r, slotOf a r p.1 = a.tmps.getD p.2 undef
  | [], _, _, h => nomatch h
  | q :: r, hn, p, h => by
    rw [List.map_cons, List.nodup_cons] at hn
    rcases List.mem_cons.1 h with rfl | h
    · exact if_pos rfl
    · show (if p.1 = q.1 then _ else slotOf a r p.1) = _
      rw [if_neg (fun e => hn.1 (List.mem_map.2 ⟨p, h, e⟩))]
      exact slotOf_eq a r hn.2 p h
def lset : List Nat → Array Bool → Array Bool
  | [], L => L
  | i :: s, L => lset s (L.setIfInBounds i true)
theorem lset_get : ∀ (s : List Nat) (L : Array Bool) (j : Nat), (lset s L)[j]? = if j ∈ s ∧ j < L.size then some true else L[j]?
  | [], L, j => by simp [lset]
  | i :: s, L, j => by
    show (lset s _)[j]? = _
    rw [lset_get s, Array.getElem?_setIfInBounds, Array.size_setIfInBounds]
    by_cases hij : i = j
    · subst hij
      by_cases hl : i < L.size <;> simp [hl]
    · have hji : ¬ j = i := fun e => hij e.symm
      simp [hij, hji]
theorem lset_step (todo : List Nat) (g : Nat → Bool) {i : Nat} (hi : i ∈ todo) (L : Array Bool) : (lset (todo.filter g) L).setIfInBounds i true = lset (todo.filter (fun j => g j || j == i)) L := by
  apply Array.ext_getElem?
  intro j
  have hs : ∀ (s : List Nat) (L : Array Bool), (lset s L).size = L.size := by
    intro s
    induction s with
    | nil => intro L; rfl
    | cons i s ih => intro L; show (lset s _).size = _; rw [ih, Array.size_setIfInBounds]
  rw [Array.getElem?_setIfInBounds, lset_get, lset_get, hs]
  simp only [List.mem_filter, Bool.or_eq_true, beq_iff_eq]
  by_cases hij : i = j
  · subst hij
    by_cases hl : i < L.size <;> simp [hl, hi]
  · have hji : ¬ j = i := fun e => hij e.symm
    simp [hij, hji]
def subs : List Nat → List (List Nat)
  | [] => [[]]
  | i :: r => (subs r).flatMap fun s => [s, i :: s]
theorem filter_subs (g : Nat → Bool) : ∀ l, l.filter g ∈ subs l
  | [] => List.mem_cons_self ..
  | i :: r => by
    rw [List.filter_cons]
    refine List.mem_flatMap.2 ⟨_, filter_subs g r, ?_⟩
    split
    · exact List.mem_cons_of_mem _ (List.mem_cons_self ..)
    · exact List.mem_cons_self ..
/-- Whatever part of 'todo' has run: one of the rest may come up, and nothing else; what it reads has run. -/
def chkS (md : Region.Mode) (ops : Array Oper) (L0 : Array Bool) (todo : List Nat) (pre : Nat → List Nat) : Bool :=
  (subs todo).all fun s => !(s.all fun i => (pre i).all fun j => s.contains j) || s == todo || (!(Region.ready md ops (lset s L0)).isEmpty && (Region.ready md ops (lset s L0)).all fun i => todo.contains i && !s.contains i && (pre i).all fun j => s.contains j)
theorem count_step {g : Nat → Bool} {i : Nat} (hg : g i = false) : ∀ l : List Nat, l.Nodup → i ∈ l → (l.filter fun j => !g j).length = (l.filter fun j => !(g j || j == i)).length + 1
  | [], _, hi => nomatch hi
  | j :: r, hn, hi => by
    rw [List.nodup_cons] at hn
    by_cases hij : j = i
    · subst hij
      have h0 : (r.filter fun k => !g k) = r.filter fun k => !(g k || k == j) := by
        apply List.filter_congr
        intro k hk
        have : k ≠ j := fun e => hn.1 (e ▸ hk)
        simp [this]
      simp [hg, h0]
    · have := count_step hg r hn.2 ((List.mem_cons.1 hi).resolve_left (fun e => hij e.symm))
      simp only [List.filter_cons, Bool.or_false, show (j == i) = false by simpa using hij]
      split <;> simp [this]
/-- What lasts while memory grows. -/
class Last (φ : Value → World → Prop) : Prop where out : ∀ v W W', Below W.heap.size W W' → φ v W → φ v W'
def phi : List (Value → World → Prop) → List Nat → Nat → Value → World → Prop
  | φ :: r, j :: s, i => if i = j then φ else phi r s i
  | _, _, _ => fun _ _ => True
class Lasts (l : List (Value → World → Prop)) : Prop where out : ∀ (s : List Nat) (i : Nat), Last (phi l s i)
instance Lasts.nil : Lasts [] := ⟨fun _ _ => ⟨fun _ _ _ _ _ => trivial⟩⟩
instance Lasts.cons {φ : Value → World → Prop} {l : List (Value → World → Prop)} [h1 : Last φ] [h2 : Lasts l] : Lasts (φ :: l) := ⟨fun s i => by
  cases s with
  | nil => exact ⟨fun _ _ _ _ _ => trivial⟩
  | cons j s =>
    show Last (if i = j then φ else phi l s i)
    split
    · exact h1
    · exact h2.out s i⟩
/-- A pointer to a block that was made after W; to one that is there in W. -/
def NewP (v : Value) (W : World) : Prop := ∃ b, v = .pointer (some ⟨b, 0, none⟩) ∧ W.heap.size ≤ b
def OldP (v : Value) (W : World) : Prop := ∃ b, v = .pointer (some ⟨b, 0, none⟩) ∧ b < W.heap.size
theorem newP_ne {u v : Value} {W : World} (h1 : NewP v W) (h2 : OldP u W) : u ≠ v := by
  obtain ⟨b, rfl, hb⟩ := h1
  obtain ⟨c, rfl, hc⟩ := h2
  intro e
  simp only [Value.pointer.injEq, Option.some.injEq, Addr.mk.injEq, and_true] at e
  omega
theorem ptr_ne {b c : Nat} (h : (Value.pointer (some ⟨b, 0, none⟩)) ≠ .pointer (some ⟨c, 0, none⟩)) : NeN b c := ⟨fun e => h (by rw [e])⟩
theorem wpAnyT_inv (dl : List (Nat × Tmp)) (pre : Nat → List Nat) (φs : List (Value → World → Prop)) [hΦ : Lasts φs] (A : List Nat) {L0 : Array Bool} {a0 : Act} {w : World} {F : Nat} (m : Nat) (hF : F = m + dl.length)
    (hchk : chkS md ops L0 (dl.map (·.1)) pre = true) (hd : (dl.map (·.2)).Nodup) (hnd : (dl.map (·.1)).Nodup) (hds : (dl.all fun p => dstOf ops p.1 == some p.2) = true) (hA : ∀ i ∈ A, ∀ v W, phi φs (dl.map (·.1)) i v W → OldP v W) (hSk : ∀ W W', Below W.heap.size W W' → S W → S W') (hS : S w)
    (hop : ∀ i ∈ dl.map (·.1), ∀ (f : Nat → Value) (W : World), S W → Below w.heap.size w W → (∀ j ∈ pre i, phi φs (dl.map (·.1)) j (f j) W) → ∃ o, ops[i]? = some o ∧ ∀ K' : Act → World → Prop,
      Shut (∀ a' v W', a' = (putAll f dl a0).put o.dst v → Below W.heap.size W W' → phi φs (dl.map (·.1)) i v W' → (i ∈ A → NewP v W) → K' a' W') →
      if Region.wanted o (yielded ops (putAll f dl a0).tmps) = true then Oper.wp P o (putAll f dl a0) W K' Q else K' ((putAll f dl a0).put o.dst undef) W)
    (hend : ∀ (f : Nat → Value) (W : World), S W → Below w.heap.size w W → (∀ j ∈ dl.map (·.1), phi φs (dl.map (·.1)) j (f j) W) → (∀ j k, j ∈ A → k ∈ A → j ∈ dl.map (·.1) → k ∈ dl.map (·.1) → j ≠ k → f j ≠ f k) → wpAnyT P md ops Q S T m (lset (dl.map (·.1)) L0) (putAll f dl a0) W) :
    wpAnyT P md ops Q S T F L0 a0 w := by
  subst hF
  have hlen : dl.length = (dl.map (·.1)).length := by rw [List.length_map]
  rw [hlen]
  have hds' : ∀ i ∈ dl.map (·.1), ∃ d, (i, d) ∈ dl ∧ dstOf ops i = some d := fun i hi => by
    obtain ⟨p, hp, rfl⟩ := List.mem_map.1 hi
    exact ⟨p.2, hp, by simpa using List.all_eq_true.1 hds p hp⟩
  generalize hT : dl.map (·.1) = todo at *
  have key : ∀ (n : Nat) (g : Nat → Bool) (f : Nat → Value) (W : World), (todo.filter fun j => !g j).length = n → S W → Below w.heap.size w W → (∀ j ∈ todo, g j = true → phi φs todo j (f j) W) → (∀ j k, j ∈ A → k ∈ A → j ∈ todo → k ∈ todo → g j = true → g k = true → j ≠ k → f j ≠ f k) → (∀ j ∈ todo, g j = true → ∀ k ∈ pre j, k ∈ todo ∧ g k = true) →
      wpAnyT P md ops Q S T (m + n) (lset (todo.filter g) L0) (putAll f dl a0) W := by
    intro n
    induction n with
    | zero =>
      intro g f W hn hSW hB hf hne _
      have hall : ∀ j ∈ todo, g j = true := fun j hj => by
        have h0 := List.eq_nil_of_length_eq_zero hn
        have := List.filter_eq_nil_iff.1 h0 j hj
        simpa using this
      rw [List.filter_eq_self.2 hall]
      exact hend f W hSW hB (fun j hj => hf j hj (hall j hj)) (fun j k ha hb hj hk => hne j k ha hb hj hk (hall j hj) (hall k hk))
    | succ n ih =>
      intro g f W hn hSW hB hf hnf hcl
      have hs := List.all_eq_true.1 hchk _ (filter_subs g todo)
      have hne : ((todo.filter g == todo) : Bool) = false := by
        rw [beq_eq_false_iff_ne]
        intro e
        have hall := List.filter_eq_self.1 e
        have : (todo.filter fun j => !g j) = [] := List.filter_eq_nil_iff.2 (fun j hj => by simp [hall j hj])
        rw [this] at hn
        simp at hn
      have hcl2 : ((todo.filter g).all fun i => (pre i).all fun j => (todo.filter g).contains j) = true := by
        simp only [List.all_eq_true, List.contains_iff_mem, List.mem_filter]
        exact fun i hi j hj => hcl i hi.1 hi.2 j hj
      rw [hne, hcl2, Bool.not_true, Bool.false_or, Bool.false_or, Bool.and_eq_true] at hs
      obtain ⟨hr, hs⟩ := hs
      refine ⟨fun h0 => (by rw [h0] at hr; simp at hr), fun i hi => ?_⟩
      have hi2 := List.all_eq_true.1 hs i hi
      simp only [Bool.and_eq_true, List.contains_iff_mem, Bool.not_eq_true', List.all_eq_true] at hi2
      obtain ⟨⟨hit, his⟩, hp⟩ := hi2
      have hgi : g i = false := by
        cases hg : g i with
        | false => rfl
        | true =>
          have : (todo.filter g).contains i = true := List.contains_iff_mem.2 (List.mem_filter.2 ⟨hit, hg⟩)
          rw [this] at his
          cases his
      obtain ⟨o, ho, H⟩ := hop i hit f W hSW hB (fun j hj => by
        have := List.mem_filter.1 (hp j hj)
        exact hf j this.1 this.2)
      obtain ⟨d, hdm, hdo⟩ := hds' i hit
      refine wpOp_step ho (fun K' hK => H K' (fun a' v W' ha hb hv hnw => hK _ _ ⟨fun _ => hSk _ _ hb hSW, ?_⟩))
      have hdst : o.dst = some d := by rw [← hdo]; simp [dstOf, ho]
      rw [ha, lset_step todo g hit, hdst, putAll_upd dl a0 hd (hT ▸ hnd) hdm]
      refine ih _ _ W' (by have := count_step hgi todo hnd hit; omega) (hSk _ _ hb hSW) (blw_trans hB hb) (fun j hj hgj => ?_) (fun j k haj hak hj hk hgj hgk hjk => ?_) (fun j hj hgj k hk => ?_)
      · by_cases hji : j = i
        · subst hji
          rw [show upd f j v j = v from if_pos rfl]
          exact hv
        · rw [show upd f i v j = f j from if_neg hji]
          refine (hΦ.out todo j).out _ _ _ hb (hf j hj ?_)
          simpa [hji] using hgj
      · by_cases hji : j = i
        · have hki : ¬ k = i := fun e => hjk (hji.trans e.symm)
          have hgk' : g k = true := by simpa [hki] using hgk
          rw [show upd f i v k = f k from if_neg hki, show upd f i v j = v from if_pos hji]
          exact (newP_ne (hnw (hji ▸ haj)) (hA k hak _ _ (hf k hk hgk'))).symm
        · have hgj' : g j = true := by simpa [hji] using hgj
          rw [show upd f i v j = f j from if_neg hji]
          by_cases hki : k = i
          · rw [show upd f i v k = v from if_pos hki]
            exact newP_ne (hnw (hki ▸ hak)) (hA j haj _ _ (hf j hj hgj'))
          · rw [show upd f i v k = f k from if_neg hki]
            exact hnf j k haj hak hj hk hgj' (by simpa [hki] using hgk) hjk
      · by_cases hji : j = i
        · subst hji
          have := List.mem_filter.1 (hp k hk)
          exact ⟨this.1, by simp [this.2]⟩
        · have := hcl j hj (by simpa [hji] using hgj) k hk
          exact ⟨this.1, by simp [this.2]⟩
  have h0 := key todo.length (fun _ => false) (slotOf a0 dl) w (by simp) hS (Below.refl _ _) (fun _ _ h => nomatch h) (fun _ _ _ _ _ _ h => nomatch h) (fun _ _ h => nomatch h)
  rw [putAll_self a0 dl (slotOf_eq a0 dl (hT ▸ hnd))] at h0
  have hnil : todo.filter (fun _ => false) = [] := List.filter_eq_nil_iff.2 (fun _ _ => by simp)
  rw [hnil] at h0
  exact h0
theorem Ex.below {w W W' : World} {L : List Nat} (h : Below W.heap.size W W') (e : Ex w L W) : Ex w L W' :=
  have := Kp1.mk h
  inferInstance
end
/-- Kinds of what lasts. -/
def phiN (n k : Nat) (v : Value) (W : World) : Prop := ∃ a l c, v = .slice a l c ∧ CN W (.slice a l c) n k
def phiR (n k : Nat) (v : Value) (W : World) : Prop := ∃ a l c, v = .slice a l c ∧ CR W (.slice a l c) n k
/-- A box of type t with the cells l that was made after w0. -/
def phiB (w0 : World) (t : TypeId) (l : List Value) (v : Value) (W : World) : Prop := ∃ b, v = .pointer (some ⟨b, 0, none⟩) ∧ Bx W b t l ∧ Ge w0 b ∧ Gg w0 b
instance {n k : Nat} : Last (phiN n k) := ⟨fun _ _ _ hb ⟨a, l, c, e, _⟩ => have := Kp1.mk hb; ⟨a, l, c, e, inferInstance⟩⟩
instance {n k : Nat} : Last (phiR n k) := ⟨fun _ _ _ hb ⟨a, l, c, e, _⟩ => have := Kp1.mk hb; ⟨a, l, c, e, inferInstance⟩⟩
instance {w0 : World} {t : TypeId} {l : List Value} : Last (phiB w0 t l) := ⟨fun _ _ _ hb ⟨b, e, _, h1, h2⟩ => have := Kp1.mk hb; ⟨b, e, inferInstance, h1, h2⟩⟩
def phiV (v0 v : Value) (_ : World) : Prop := v = v0
instance {v0 : Value} : Last (phiV v0) := ⟨fun _ _ _ _ e => e⟩
theorem phiN.fin {n n' k k' : Nat} {a : Option Addr} {l c : Nat} {W : World} [h : CN W (.slice a l c) n' k'] (e : n' = n) (b : k' ≤ k) : phiN n k (.slice a l c) W := ⟨a, l, c, rfl, by subst e; exact ⟨h.out.mono b⟩⟩
theorem phiR.fin {n n' k k' : Nat} {a : Option Addr} {l c : Nat} {W : World} [h : CR W (.slice a l c) n' k'] (e : n' = n) (b : k' ≤ k) : phiR n k (.slice a l c) W := ⟨a, l, c, rfl, by subst e; exact ⟨h.out.mono b⟩⟩
theorem phiB.fin {w0 W : World} {t : TypeId} {l : List Value} {b : Nat} [h : Bx W b t l] [h1 : Ge w0 b] [h2 : Gg w0 b] : phiB w0 t l (.pointer (some ⟨b, 0, none⟩)) W := ⟨b, rfl, h, h1, h2⟩
theorem phiB.old {w0 W : World} {t : TypeId} {l : List Value} {v : Value} (h : phiB w0 t l v W) : OldP v W := by
  obtain ⟨b, e, h, _, _⟩ := h
  exact ⟨b, e, h.lt⟩
end Go.Proofs.Ytfdgglddldlpjaa

/- Normal forms of naturals and integers that came in as arguments. printed by a small program (mkif.py). -/
namespace Go.Proofs.Ytfdgglddldlpjaa
open Go.RowKit
set_option maxRecDepth 100000
set_option maxHeartbeats 40000000
set_option synthInstance.maxSize 100000
set_option synthInstance.maxHeartbeats 1000000

/-- The slice v reads as the digits l. -/
class RL (W : World) (v : Value) (l : outParam (List Nat)) : Prop where out : Rd W v l
instance RL.al {W : World} {v : Value} {l : (List Nat)} {o : Obj} [h : RL W v l] : RL (W.alloc o) v l := ⟨h.out.keep (blw_one _ _)⟩
instance RL.dr {W : World} {v : Value} {l : (List Nat)} [h : RL W v l] : RL W.drew v l := ⟨h.out.keep (blw_drew (Below.refl _ _))⟩
instance RL.drN {W : World} {v : Value} {l : (List Nat)} {j : Nat} [h : RL W v l] : RL (W.drewN j) v l := ⟨h.out.keep (blw_drewN (Below.refl _ _) _)⟩
instance RL.kp {W W2 : World} {v : Value} {l : (List Nat)} [b : Kp1 W W2] [h : RL W v l] : RL W2 v l := ⟨h.out.keep (b.out)⟩
instance RL.st {W : World} {v : Value} {l : (List Nat)} {qb ib : Nat} {xv : Value} [b : SoftB W qb] [h : RL W v l] : RL (W.setCell ⟨qb, ib, none⟩ xv) v l := ⟨h.out.soft b⟩
instance (priority := low) CR.ofL {W : World} {v : Value} {l : List Nat} [h : RL W v l] : CR W v (val l) l.length := ⟨.of_rd h.out (Nat.le_refl _)⟩
theorem RL.len {W : World} {a : Option Addr} {n c : Nat} {l : List Nat} (h : RL W (.slice a n c) l) : n = l.length := h.out.len
theorem rl_row {w : World} {a : Option Addr} {len cap : Nat} {zs : List Int} (h : IsRow .u32 w a len cap zs) : ∃ l, l.length = len ∧ RL w (.slice a len cap) l := by
  obtain ⟨l, h1, h2⟩ := rd_of_row h
  exact ⟨l, h1, ⟨h2⟩⟩
theorem normalB_nfx (n : Nat) : normalB (nf n) = true := by
  by_cases h : n = 0
  · subst h; rfl
  · exact normalB_ne (nf_last n h)
theorem normalB_iff {l : List Nat} (hl : Dig l) : normalB l = true ↔ l = nf (val l) := by
  constructor
  · intro h
    refine (nf_of_normal hl ?_).symm
    simp only [normalB, Bool.or_eq_true, decide_eq_true_eq] at h
    rcases h with h | h
    · left; exact List.eq_nil_of_length_eq_zero h
    · right; exact h
  · intro h; rw [h]; exact normalB_nfx _
/-- The integer with sign g and digits l is in normal form. -/
def nrmI (g : Bool) (l : List Nat) : Bool := normalB l && (!g || decide (0 < l.length))
theorem natNormalLV {w : World} {a1 : Option Addr} {l1 c1 : Nat} {L : List Nat} {v : Bool} [h1 : RL w (.slice a1 l1 c1) L] (hv : Hid (normalB L = v)) :
    Calls Try.prog 30 #[.slice a1 l1 c1] w fun e w' => e = .returned (.bool v) ∧ w = w' := by
  rw [← hv.out]
  exact normal_any _ _ _ h1.out
theorem sameNL {w : World} {a1 a2 : Option Addr} {l1 c1 l2 c2 n k2 : Nat} {L : List Nat} [h1 : RL w (.slice a1 l1 c1) L] [h2 : CN w (.slice a2 l2 c2) n k2] :
    Calls Try.prog 44 #[.slice a1 l1 c1, .slice a2 l2 c2] w fun e w' => e = .returned (.bool (sameB L (nf n))) ∧ Below w.heap.size w w' := sameN_any _ _ _ _ _ h1.out h2.out.1
theorem natNormalL {w : World} {a1 : Option Addr} {l1 c1 : Nat} {L : List Nat} [h1 : RL w (.slice a1 l1 c1) L] :
    Calls Try.prog 30 #[.slice a1 l1 c1] w fun e w' => e = .returned (.bool (normalB L)) ∧ w = w' := normal_any _ _ _ h1.out
theorem sameIL {w : World} {g1 g2 v : Bool} {a1 a2 : Option Addr} {l1 c1 l2 c2 k2 : Nat} {L : List Nat} {x : Int} [h1 : RL w (.slice a1 l1 c1) L] [h2 : CZ w (.agg #[.bool g2, .slice a2 l2 c2]) x k2] (hv : Hid ((decide (g1 = decide (x < 0)) && sameB L (nf x.natAbs)) = v)) :
    Calls Try.prog 27 #[.agg #[.bool g1, .slice a1 l1 c1], .agg #[.bool g2, .slice a2 l2 c2]] w fun e w' => e = .returned (.bool v) ∧ Below w.heap.size w w' := by
  have e2 := (zz_of h2).1
  have i2 : CN w (.slice a2 l2 c2) x.natAbs k2 := ⟨(zz_of h2).2⟩
  have HV := Lib.hid hv.out
  clear h2 hv
  rw [← e2] at HV
  clear e2
  cases g1 <;> cases g2
  · go_enter Try.func27, Try.ntmps27
    go_wp2_with (first
    | (go_at_call 44; (with_reducible refine Calls.cE (sameNL) ?_); intros))
    go_ret
    exact E.fin (by rw [← HV.out]; rfl)
  · go_enter Try.func27, Try.ntmps27
    go_wp2_with fail
    go_ret
    exact E.fin (by rw [← HV.out]; rfl)
  · go_enter Try.func27, Try.ntmps27
    go_wp2_with fail
    go_ret
    exact E.fin (by rw [← HV.out]; rfl)
  · go_enter Try.func27, Try.ntmps27
    go_wp2_with (first
    | (go_at_call 44; (with_reducible refine Calls.cE (sameNL) ?_); intros))
    go_ret
    exact E.fin (by rw [← HV.out]; rfl)
theorem intNormalL {w : World} {g1 v : Bool} {a1 : Option Addr} {l1 c1 : Nat} {L : List Nat} [h1 : RL w (.slice a1 l1 c1) L] (hv : Hid (nrmI g1 L = v)) :
    Calls Try.prog 13 #[.agg #[.bool g1, .slice a1 l1 c1]] w fun e w' => e = .returned (.bool v) ∧ Below w.heap.size w w' := by
  have hl := h1.len
  have HV : Hid ((normalB L && (!g1 || decide (0 < l1))) = v) := by show _ = _; rw [hl]; exact hv.out
  clear hv hl
  obtain ⟨b, hb⟩ : ∃ b, normalB L = b := ⟨_, rfl⟩
  rw [hb] at HV
  have HB := Lib.hid hb
  clear hb
  by_cases hp : 0 < l1
  · have hp2 : decide (0 < l1) = true := decide_eq_true hp
    rw [hp2] at HV
    cases b <;> cases g1
    all_goals
      go_enter Try.func13, Try.ntmps13
      go_wp2_with (first
    | (go_at_call 30; (with_reducible refine Calls.cS (natNormalLV HB) ?_); intros))
      go_ret
      exact E.fin (by rw [← HV.out]; rfl)
  · have hp2 : decide (0 < l1) = false := decide_eq_false hp
    obtain rfl : l1 = 0 := by omega
    clear hp
    rw [hp2] at HV
    cases b <;> cases g1
    all_goals
      go_enter Try.func13, Try.ntmps13
      go_wp2_with (first
    | (go_at_call 30; (with_reducible refine Calls.cS (natNormalLV HB) ?_); intros))
      go_ret
      exact E.fin (by rw [← HV.out]; rfl)
end Go.Proofs.Ytfdgglddldlpjaa

/- Integers: division; the sanity check of the laws of layer 2; normal forms of integers that came in as arguments. printed by a small program (mkif.py). -/
namespace Go.Proofs.Ytfdgglddldlpjaa
open Go.RowKit
set_option maxRecDepth 100000
set_option maxHeartbeats 40000000
set_option synthInstance.maxSize 100000
set_option synthInstance.maxHeartbeats 1000000
set_option linter.unusedVariables false
set_option linter.unusedSimpArgs false

theorem ret_bbt {P : Program} {fn : Func} {R : Ending → World → Prop} {a : Act} {W : World} {b1 b2 : Nat} {p q u : Tmp} {ty ty2 t1 t2 : TypeId} {d d2 : TypeDesc} {l l' m m' : List Value} [h1 : Bx W b1 t1 l] [h2 : Bx W b2 t2 m] (hr : fn.results = #[.cell p ty, .cell q ty2, .tmp u])
    (hu : P.underlying ty = some d) (hd : (match d with | .struct _ | .array _ _ => true | _ => false) = true) (hi : (P.info? ty).map (·.size) = some l.length)
    (hu2 : P.underlying ty2 = some d2) (hd2 : (match d2 with | .struct _ | .array _ _ => true | _ => false) = true) (hi2 : (P.info? ty2).map (·.size) = some m.length)
    (hp : a.tmps.getD p undef = .pointer (some ⟨b1, 0, none⟩)) (hq : a.tmps.getD q undef = .pointer (some ⟨b2, 0, none⟩)) (hdf : a.defers = []) (hl : l = l') (hm : m = m') (hR : R (.returned (.tuple #[.agg l'.toArray, .agg m'.toArray, a.tmps.getD u undef])) W) : bodyPost P fn R .ret a W := by
  subst hl hm
  exact ret_cct hr hp hq (loadVar_at W b1 ty l d hu hd hi (fun j hj => by rw [cell_bx, List.getElem?_eq_getElem hj])) (loadVar_at W b2 ty2 m d2 hu2 hd2 hi2 (fun j hj => by rw [cell_bx, List.getElem?_eq_getElem hj])) hdf hR
theorem IDRet.fin {w w' : World} {x y x' y' : Int} {kx ky k : Nat} {g g2 v : Bool} {a a2 : Option Addr} {l c l2 c2 : Nat} [b : Kp w w'] [hx : CZ w' (.agg #[.bool g, .slice a l c]) x' kx] [hy : CZ w' (.agg #[.bool g2, .slice a2 l2 c2]) y' ky]
    (ex : x' = x / y) (mx : kx ≤ k) (ey : y' = if y = 0 then 0 else x % y) (my : ky ≤ k) (ev : v = decide (y ≠ 0)) : IDRet w x y k (.returned (.tuple #[.agg #[.bool g, .slice a l c], .agg #[.bool g2, .slice a2 l2 c2], .bool v])) w' := by
  subst ev
  exact ⟨_, _, _, _, _, _, _, _, rfl, hx.cast ex mx, hy.cast ey my, b.out⟩
instance CZ.zz {W : World} : CZ W (.agg #[.bool false, .slice none 0 0]) 0 0 := ⟨⟨_, _, _, _, rfl, rfl, Nn.nil W 0⟩⟩
theorem divmod0C {w : World} {a1 a2 : Option Addr} {l1 c1 l2 c2 m n k1 k2 : Nat} [h1 : CR w (.slice a1 l1 c1) m k1] [h2 : CR w (.slice a2 l2 c2) n k2] (b : k1 ≤ 900000) (hn : n = 0) :
    Calls Try.prog 34 #[.slice a1 l1 c1, .slice a2 l2 c2] w (DMRet w (m / n) 0 k1 false) := by
  have h := divmodC (w := w) (a1 := a1) (l1 := l1) (c1 := c1) (a2 := a2) (l2 := l2) (c2 := c2) (m := m) (n := n) (k1 := k1) (k2 := k2) b
  rw [if_pos hn, show decide (n ≠ 0) = false by simp [hn]] at h
  exact h
theorem divmodnC {w : World} {a1 a2 : Option Addr} {l1 c1 l2 c2 m n k1 k2 : Nat} [h1 : CR w (.slice a1 l1 c1) m k1] [h2 : CR w (.slice a2 l2 c2) n k2] (b : k1 ≤ 900000) (hn : n ≠ 0) :
    Calls Try.prog 34 #[.slice a1 l1 c1, .slice a2 l2 c2] w (DMRet w (m / n) (m % n) k1 true) := by
  have h := divmodC (w := w) (a1 := a1) (l1 := l1) (c1 := c1) (a2 := a2) (l2 := l2) (c2 := c2) (m := m) (n := n) (k1 := k1) (k2 := k2) b
  rw [if_neg hn, show decide (n ≠ 0) = true from decide_eq_true hn] at h
  exact h
theorem Calls.cDM0 {P : Program} {f : FuncId} {args : Array Value} {w : World} {q r k : Nat} {ok : Bool} {K : Ending → World → Prop} (h : Calls P f args w (DMRet w q r k ok)) (hr : r = 0)
    (hK : ∀ w' [Kp1 w w'] a l c a2 c2 [CN w' (.slice a l c) q k] [CN w' (.slice a2 0 c2) r k], K (.returned (.tuple #[.slice a l c, .slice a2 0 c2, .bool ok])) w') : Calls P f args w K := by
  refine h.mono ?_
  rintro e w' ⟨a, l, c, a2, l2, c2, rfl, h1, h2, hb⟩
  obtain rfl : l2 = 0 := by rw [h2.out.len, hr]; rfl
  exact @hK w' ⟨hb⟩ a l c a2 c2 h1 h2
theorem Calls.cDMp {P : Program} {f : FuncId} {args : Array Value} {w : World} {q r k : Nat} {ok : Bool} {K : Ending → World → Prop} (h : Calls P f args w (DMRet w q r k ok)) (hr : r ≠ 0)
    (hK : ∀ w' [Kp1 w w'] a l c a2 l2 c2 [CN w' (.slice a l c) q k] [CN w' (.slice a2 l2 c2) r k], 0 < (l2 : Int) → K (.returned (.tuple #[.slice a l c, .slice a2 l2 c2, .bool ok])) w') : Calls P f args w K := by
  refine h.mono ?_
  rintro e w' ⟨a, l, c, a2, l2, c2, rfl, h1, h2, hb⟩
  exact @hK w' ⟨hb⟩ a l c a2 l2 c2 h1 h2 (by have := nf_len_pos hr; have := h2.out.len; omega)
theorem intSignV {w : World} {v : Int} {g1 : Bool} {a1 : Option Addr} {l1 c1 k1 : Nat} {x : Int} [h1 : CI w (.agg #[.bool g1, .slice a1 l1 c1]) x k1] (b : k1 ≤ 900000) (hv : Hid (isgn x = v)) :
    Calls Try.prog 15 #[.agg #[.bool g1, .slice a1 l1 c1]] w (fun e w' => e = .returned (.int .i64 v) ∧ Below w.heap.size w w') := by
  rw [← hv.out]; exact intSignC b
theorem intDivC {w : World} {g1 g2 : Bool} {a1 a2 : Option Addr} {l1 c1 l2 c2 k1 k2 : Nat} {x y : Int} [h1 : CI w (.agg #[.bool g1, .slice a1 l1 c1]) x k1] [h2 : CI w (.agg #[.bool g2, .slice a2 l2 c2]) y k2] (b : k1 ≤ 900000 ∧ k2 ≤ 900000) :
    Calls Try.prog 18 #[.agg #[.bool g1, .slice a1 l1 c1], .agg #[.bool g2, .slice a2 l2 c2]] w (IDRet w x y (max k1 k2 + 2)) := by
  obtain ⟨m, r1, rfl⟩ := zi_of h1
  obtain ⟨n, r2, rfl⟩ := zi_of h2
  have i1 : CR w (.slice a1 l1 c1) m k1 := ⟨r1⟩
  have i2 : CR w (.slice a2 l2 c2) n k2 := ⟨r2⟩
  clear r1 r2
  by_cases hn : n = 0
  · have HN := Lib.hid hn
    have HY : Hid (sgn g2 n = 0) := by subst hn; cases g2 <;> rfl
    clear hn
    go_enter Try.func18, Try.ntmps18
    go_wp2_with (go_at_call 34; (with_reducible refine Calls.cDM (divmod0C (by omega) HN.out) ?_); intros)
    refine ret_bbt rfl Try.underlying25 rfl (by kernel_rfl) Try.underlying25 rfl (by kernel_rfl) rfl rfl rfl rfl rfl ?_
    exact IDRet.fin (by rw [HY.out, Int.ediv_zero]) (by omega) (by rw [if_pos HY.out]) (by omega) (by simp [HY.out])
  · have HN := Lib.hid hn
    have HY : Hid (sgn g2 n ≠ 0) := by cases g2 <;> simp [sgn] <;> omega
    by_cases hs : sgn g1 m < 0
    · have HS : Hid (isgn (sgn g1 m) = -1) := by show _ = _; unfold isgn; rw [if_pos hs]
      have hx : sgn g1 m = -(m : Int) := sgn_neg hs
      by_cases hr : m % n = 0
      · have HR := Lib.hid hr
        obtain ⟨q1, q2⟩ := dm_neg0 (g2 := g2) hn hr
        rw [← hx] at q1 q2
        have HQ := Lib.hid q1
        have HQ2 : Hid (sgn false (m % n) = sgn g1 m % sgn g2 n) := q2
        clear hn hs hx hr q1 q2
        go_enter Try.func18, Try.ntmps18
        go_wp2_with (first | (go_at_call 34; (with_reducible refine Calls.cDM0 (divmodnC (by omega) HN.out) HR.out ?_); intros) | (go_at_call 15; (with_reducible refine Calls.cE (intSignV (by omega) HS) ?_); intros) | (go_at_call 37; (with_reducible refine Calls.cSg (signedC) ?_); intros))
        refine ret_bbt rfl Try.underlying25 rfl (by kernel_rfl) Try.underlying25 rfl (by kernel_rfl) rfl rfl rfl rfl rfl ?_
        exact IDRet.fin HQ.out (by omega) (by rw [if_neg HY.out]; exact HQ2.out) (by omega) (by simp [HY.out])
      · have HR := Lib.hid hr
        obtain ⟨q1, q2⟩ := dm_neg (g2 := g2) hn hr
        rw [← hx] at q1 q2
        have HQ := Lib.hid q1
        have HQ2 : Hid (sgn false (n - m % n) = sgn g1 m % sgn g2 n) := q2
        clear hn hs hx hr q1 q2
        go_enter Try.func18, Try.ntmps18
        go_wp2_with (first
          | (go_at_call 34; (with_reducible refine Calls.cDMp (divmodnC (by omega) HN.out) HR.out ?_); intros)
          | (go_at_call 15; (with_reducible refine Calls.cE (intSignV (by omega) HS) ?_); intros)
          | (go_at_call 37; (with_reducible refine Calls.cSg (signedC) ?_); intros)
          | (go_at_call 35; (with_reducible refine Calls.cN (addC (by omega)) ?_); intros)
          | (go_at_call 36; (with_reducible refine Calls.cNB (natSubC (by omega)) ?_); intros))
        refine ret_bbt rfl Try.underlying25 rfl (by kernel_rfl) Try.underlying25 rfl (by kernel_rfl) rfl rfl rfl rfl rfl ?_
        exact IDRet.fin HQ.out (by omega) (by rw [if_neg HY.out]; exact HQ2.out) (by omega) (by simp [HY.out])
    · obtain ⟨s, hs1, hs2⟩ : ∃ s, isgn (sgn g1 m) = s ∧ 0 ≤ s := ⟨_, rfl, by unfold isgn; rw [if_neg hs]; split <;> omega⟩
      have HS := Lib.hid hs1
      have hx : sgn g1 m = (m : Int) := by cases g1 <;> simp [sgn] at * <;> omega
      obtain ⟨q1, q2⟩ := @dm_pos g2 m n
      rw [← hx] at q1 q2
      have HQ := Lib.hid q1
      have HQ2 : Hid (sgn false (m % n) = sgn g1 m % sgn g2 n) := q2
      clear hn hs hx q1 q2 hs1
      go_enter Try.func18, Try.ntmps18
      go_wp2_with (first | (go_at_call 34; (with_reducible refine Calls.cDM (divmodnC (by omega) HN.out) ?_); intros) | (go_at_call 15; (with_reducible refine Calls.cE (intSignV (by omega) HS) ?_); intros) | (go_at_call 37; (with_reducible refine Calls.cSg (signedC) ?_); intros))
      refine ret_bbt rfl Try.underlying25 rfl (by kernel_rfl) Try.underlying25 rfl (by kernel_rfl) rfl rfl rfl rfl rfl ?_
      exact IDRet.fin HQ.out (by omega) (by rw [if_neg HY.out]; exact HQ2.out) (by omega) (by simp [HY.out])

theorem same02C {w : World} {g1 g2 : Bool} {a1 a2 : Option Addr} {l1 c1 l2 c2 k1 k2 : Nat} {x y : Int} [h1 : CZ w (.agg #[.bool g1, .slice a1 l1 c1]) x k1] [h2 : CZ w (.agg #[.bool g2, .slice a2 l2 c2]) y k2] (b : k1 ≤ 900000 ∧ k2 ≤ 900000) (hxy : x = y) :
    Calls Try.prog 11 #[.agg #[.bool g1, .slice a1 l1 c1], .agg #[.bool g2, .slice a2 l2 c2]] w (fun e w' => e = .returned (.bool true) ∧ Below w.heap.size w w') := by
  subst hxy
  go_enter Try.func11, Try.ntmps11
  go_wp2_with fail
  refine rgn [] [] fun hHeld => ?_
  refine tk 0 hHeld ?_
  refine tk 1 hHeld ?_
  refine st 2 fun K hK => ?_
  go_simp
  (with_reducible refine Calls.cZ (toIC (by omega)) ?_); intros
  refine hd hK ?_
  clear hHeld hK K
  intro hHeld
  refine st 3 fun K hK => ?_
  go_simp
  (with_reducible refine Calls.cE (sameIC rfl) ?_); intros
  refine hd hK ?_
  clear hHeld hK K
  intro hHeld
  refine tk 4 hHeld ?_
  refine dn ?_
  clear hHeld
  go_wp2
  go_ret
  exact E.fin rfl
theorem dl_4 : (dl (-4 : Int).natAbs).length ≤ 100000000 := by
  rw [show (-4 : Int).natAbs = 4 from rfl, show dl 4 = [4] by simp [dl_pos, dl_zero]]; decide
theorem dl_1 : (dl (1 : Int).natAbs).length ≤ 100000000 := by
  rw [show (1 : Int).natAbs = 1 from rfl, show dl 1 = [1] by simp [dl_pos, dl_zero]]; decide
theorem decI_m4 : decI (-4) = ⟨#[45, 52]⟩ := by
  unfold decI decStr decBytes
  rw [show (-4 : Int).natAbs = 4 from rfl, show dl 4 = [4] by simp [dl_pos, dl_zero]]; rfl
theorem decI_1 : decI 1 = ⟨#[49]⟩ := by
  unfold decI decStr decBytes
  rw [show (1 : Int).natAbs = 1 from rfl, show dl 1 = [1] by simp [dl_pos, dl_zero]]; rfl
theorem intFormatV {w : World} {g1 : Bool} {a1 : Option Addr} {l1 c1 : Nat} {x : Int} {k1 : Nat} {s : ByteArray} [h1 : CI w (.agg #[.bool g1, .slice a1 l1 c1]) x k1] (b : k1 ≤ 900000) (hd : (dl x.natAbs).length ≤ 100000000) (hs : decI x = s) :
    Calls Try.prog 19 #[.agg #[.bool g1, .slice a1 l1 c1]] w fun e w' => e = .returned (.string s) ∧ Below w.heap.size w w' := by
  subst hs; exact intFormatC ⟨b, hd⟩
theorem known02C {w : World} : Calls Try.prog 5 #[] w fun e w' => e = .returned (.bool true) ∧ Below w.heap.size w w' := by
  go_enter Try.func5, Try.ntmps5
  go_wp2_with (first
    | (go_at_call 8; (with_reducible refine Calls.cZ (fromIntC (by omega)) ?_); intros))
  with_reducible refine Calls.cID (intDivC (by omega)) ?_
  intro W1 _ g3 a3 l3 c3 g4 a4 l4 c4 z3 z4
  rw [show decide ((2 : Int) ≠ 0) = true from rfl]
  have z3 : CZ W1 (.agg #[.bool g3, .slice a3 l3 c3]) (-4) 4 := z3
  have z4 : CZ W1 (.agg #[.bool g4, .slice a4 l4 c4]) 1 4 := z4
  go_wp2_with fail
  with_reducible refine Calls.cE (intFormatV (by omega) dl_4 decI_m4) ?_
  intros
  go_wp2_with fail
  with_reducible refine Calls.cE (intFormatV (by omega) dl_1 decI_1) ?_
  intros
  go_wp2
  go_ret
  exact E.fin rfl
theorem small2C {w : World} {q : Nat} {a0 a1 : Option Addr} {l0 l1 c0 c1 : Nat} [h : Bx w q 23 [.slice a0 l0 c0, .slice a1 l1 c1]] {v : Bool} (hv : Hid (decide (l0 ≤ 20 ∧ l1 ≤ 20) = v)) :
    Calls Try.prog 4 #[.int .i64 20, .slice (some ⟨q, 0, none⟩) 2 2] w fun e w' => e = .returned (.bool v) ∧ Below w.heap.size w w' := by
  by_cases h0 : l0 ≤ 20
  · by_cases h1 : l1 ≤ 20
    · have f0 : (l0 : Int) ≤ 20 := by omega
      have f1 : (l1 : Int) ≤ 20 := by omega
      obtain rfl : true = v := by have := hv.out; rw [← this]; simp; omega
      clear hv
      go_enter Try.func4, Try.ntmps4
      go_wp2_with fail
      refine wp_loop_rounds 3 ?_
      rw [rounds_succ]
      go_wp2_with fail
      rw [rounds_succ]
      go_wp2_with fail
      rw [rounds_succ]
      go_wp2_with fail
      go_ret
      exact E.fin rfl
    · have f0 : (l0 : Int) ≤ 20 := by omega
      have f1 : (20 : Int) < l1 := by omega
      obtain rfl : false = v := by have := hv.out; rw [← this]; simp; omega
      clear hv
      go_enter Try.func4, Try.ntmps4
      go_wp2_with fail
      refine wp_loop_rounds 2 ?_
      rw [rounds_succ]
      go_wp2_with fail
      rw [rounds_succ]
      go_wp2_with fail
      go_ret
      exact E.fin rfl
  · have f0 : (20 : Int) < l0 := by omega
    obtain rfl : false = v := by have := hv.out; rw [← this]; simp; omega
    clear hv
    go_enter Try.func4, Try.ntmps4
    go_wp2_with fail
    refine wp_loop_rounds 1 ?_
    rw [rounds_succ]
    go_wp2_with fail
    go_ret
    exact E.fin rfl

theorem numCompareV {w : World} {v : Int} {g1 g2 : Bool} {a1 a2 : Option Addr} {l1 c1 l2 c2 k1 k2 : Nat} {x y : Int} [h1 : CZ w (.agg #[.bool g1, .slice a1 l1 c1]) x k1] [h2 : CZ w (.agg #[.bool g2, .slice a2 l2 c2]) y k2] (b : k1 ≤ 900000 ∧ k2 ≤ 900000) (hv : Hid (icmp x y = v)) :
    Calls Try.prog 9 #[.agg #[.bool g1, .slice a1 l1 c1], .agg #[.bool g2, .slice a2 l2 c2]] w (fun e w' => e = .returned (.int .i64 v) ∧ Below w.heap.size w w') := by
  rw [← hv.out]; exact numCompareC b
theorem intCmpV {w : World} {v : Int} {g1 g2 : Bool} {a1 a2 : Option Addr} {l1 c1 l2 c2 k1 k2 : Nat} {x y : Int} [h1 : CI w (.agg #[.bool g1, .slice a1 l1 c1]) x k1] [h2 : CI w (.agg #[.bool g2, .slice a2 l2 c2]) y k2] (b : k1 ≤ 900000 ∧ k2 ≤ 900000) (hv : Hid (icmp x y = v)) :
    Calls Try.prog 17 #[.agg #[.bool g1, .slice a1 l1 c1], .agg #[.bool g2, .slice a2 l2 c2]] w (fun e w' => e = .returned (.int .i64 v) ∧ Below w.heap.size w w') := by
  rw [← hv.out]; exact intCmpC b
theorem numSignV {w : World} {v : Int} {g1 : Bool} {a1 : Option Addr} {l1 c1 k1 : Nat} {x : Int} [h1 : CZ w (.agg #[.bool g1, .slice a1 l1 c1]) x k1] (hv : Hid (isgn x = v)) :
    Calls Try.prog 16 #[.agg #[.bool g1, .slice a1 l1 c1]] w (fun e w' => e = .returned (.int .i64 v) ∧ Below w.heap.size w w') := by
  rw [← hv.out]; exact numSignC
theorem int64In {w : World} {g1 : Bool} {a1 : Option Addr} {l1 c1 k1 : Nat} {x : Int} [h1 : CI w (.agg #[.bool g1, .slice a1 l1 c1]) x k1] (hv : Hid (-9223372036854775808 ≤ x ∧ x < 9223372036854775808)) :
    Calls Try.prog 7 #[.agg #[.bool g1, .slice a1 l1 c1]] w (fun e w' => e = .returned (.tuple #[.int .i64 x, .bool true]) ∧ Below w.heap.size w w') := by
  have h := int64C (w := w) (g1 := g1) (a1 := a1) (l1 := l1) (c1 := c1) (x := x) (k1 := k1)
  rw [int64V_in hv.out] at h
  exact h
theorem int64Out {w : World} {g1 : Bool} {a1 : Option Addr} {l1 c1 k1 : Nat} {x : Int} [h1 : CI w (.agg #[.bool g1, .slice a1 l1 c1]) x k1] (hv : Hid (¬ (-9223372036854775808 ≤ x ∧ x < 9223372036854775808))) :
    Calls Try.prog 7 #[.agg #[.bool g1, .slice a1 l1 c1]] w (fun e w' => e = .returned (.tuple #[.int .i64 0, .bool false]) ∧ Below w.heap.size w w') := by
  have h := int64C (w := w) (g1 := g1) (a1 := a1) (l1 := l1) (c1 := c1) (x := x) (k1 := k1)
  rw [int64V_out hv.out] at h
  exact h
theorem refNormalNLV {w : World} {a1 : Option Addr} {l1 c1 : Nat} {L : List Nat} {v : Bool} [h1 : RL w (.slice a1 l1 c1) L] (hv : Hid (normalB L = v)) :
    Calls Try.prog 31 #[.slice a1 l1 c1] w fun e w' => e = .returned (.bool v) ∧ w = w' := by
  rw [← hv.out]
  exact normalN_any _ _ _ h1.out
theorem refNormalIL {w : World} {g1 v : Bool} {a1 : Option Addr} {l1 c1 : Nat} {L : List Nat} [h1 : RL w (.slice a1 l1 c1) L] (hv : Hid (nrmI g1 L = v)) :
    Calls Try.prog 14 #[.agg #[.bool g1, .slice a1 l1 c1]] w fun e w' => e = .returned (.bool v) ∧ Below w.heap.size w w' := by
  have hl := h1.len
  have HV : Hid ((normalB L && (!g1 || decide (0 < l1))) = v) := by show _ = _; rw [hl]; exact hv.out
  clear hv hl
  obtain ⟨b, hb⟩ : ∃ b, normalB L = b := ⟨_, rfl⟩
  rw [hb] at HV
  have HB := Lib.hid hb
  clear hb
  by_cases hp : 0 < l1
  · have hp2 : decide (0 < l1) = true := decide_eq_true hp
    rw [hp2] at HV
    cases b <;> cases g1
    all_goals
      go_enter Try.func14, Try.ntmps14
      go_wp2_with (first
    | (go_at_call 31; (with_reducible refine Calls.cS (refNormalNLV HB) ?_); intros))
      go_ret
      exact E.fin (by rw [← HV.out]; rfl)
  · have hp2 : decide (0 < l1) = false := decide_eq_false hp
    obtain rfl : l1 = 0 := by omega
    clear hp
    rw [hp2] at HV
    cases b <;> cases g1
    all_goals
      go_enter Try.func14, Try.ntmps14
      go_wp2_with (first
    | (go_at_call 31; (with_reducible refine Calls.cS (refNormalNLV HB) ?_); intros))
      go_ret
      exact E.fin (by rw [← HV.out]; rfl)
def phiZ (x : Int) (k : Nat) (u : Value) (W : World) : Prop := ∃ g a l c, u = .agg #[.bool g, .slice a l c] ∧ CZ W (.agg #[.bool g, .slice a l c]) x k
instance {x : Int} {k : Nat} : Last (phiZ x k) := ⟨fun _ _ _ hb ⟨g, a, l, c, e, _⟩ => have := Kp1.mk hb; ⟨g, a, l, c, e, inferInstance⟩⟩
theorem phiZ.fin {W : World} {g : Bool} {a : Option Addr} {l : Nat} {c : Nat} {x x' : Int} {kx : Nat} {k : Nat} [hx : CZ W (.agg #[.bool g, .slice a l c]) x kx] (ex : x = x') (mx : kx ≤ k) : phiZ x' k (.agg #[.bool g, .slice a l c]) W := ⟨g, a, l, c, rfl, hx.cast ex mx⟩
end Go.Proofs.Ytfdgglddldlpjaa
