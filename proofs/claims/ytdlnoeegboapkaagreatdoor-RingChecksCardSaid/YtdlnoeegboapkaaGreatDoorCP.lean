/-
  Texts of this claim, joined: Rgs, Rg6.
-/
import Derived.Test.YtdlnoeegboapkaaGreatDoorCO
import Derived.Test.YtdlnoeegboapkaaGreatDoorCM
/- Points in ascending order, each once; the rings off the tape: plain facts. -/
namespace Go.Proofs.YtdlnoeegboapkaaGreatDoor
open Go.RowKit

theorem cmpP_lt {p q : Rat × Rat} : cmpP p q < 0 ↔ p.1 < q.1 ∨ (p.1 = q.1 ∧ p.2 < q.2) := by
  unfold cmpP cmpR
  have b1 := isgn_bd (p.1 - q.1).num
  have b2 := isgn_bd (p.2 - q.2).num
  have n1 := @isg_neg (p.1 - q.1)
  have n2 := @isg_neg (p.2 - q.2)
  have z1 := @isg_zero (p.1 - q.1)
  split
  · rename_i h
    have hz := z1.1 h
    constructor
    · intro hl
      have : isgn (p.2 - q.2).num = -1 := by omega
      have := n2.1 this
      right; constructor <;> grind
    · rintro (hl | ⟨_, hl⟩)
      · grind
      · have := n2.2 (by grind); omega
  · rename_i h
    constructor
    · intro hl
      have : isgn (p.1 - q.1).num = -1 := by omega
      have := n1.1 this
      left; grind
    · rintro (hl | ⟨hl, _⟩)
      · have := n1.2 (by grind); omega
      · exact absurd (z1.2 (by grind)) h
theorem cmpP_zero {p q : Rat × Rat} : cmpP p q = 0 ↔ p = q := by
  unfold cmpP cmpR
  have z1 := @isg_zero (p.1 - q.1)
  have z2 := @isg_zero (p.2 - q.2)
  split
  · rename_i h
    have hz := z1.1 h
    rw [z2, Prod.ext_iff]
    constructor
    · intro h2; constructor <;> grind
    · rintro ⟨_, h2⟩; grind
  · rename_i h
    constructor
    · intro h2; exact absurd h2 h
    · rintro rfl; exact absurd (z1.2 (by grind)) h
theorem cmpP_bd (p q : Rat × Rat) : -1 ≤ cmpP p q ∧ cmpP p q ≤ 1 := by
  unfold cmpP cmpR
  split
  · exact isgn_bd _
  · exact isgn_bd _
theorem cmpP_gt {p q : Rat × Rat} : 0 < cmpP p q ↔ cmpP q p < 0 := by
  have h0 := @cmpP_zero p q
  have h1 := @cmpP_lt p q
  have h2 := @cmpP_lt q p
  constructor
  · intro h
    rw [h2]
    have n1 : ¬ (p.1 < q.1 ∨ (p.1 = q.1 ∧ p.2 < q.2)) := fun hh => by have := h1.2 hh; omega
    have n0 : p ≠ q := fun e => by have := h0.2 e; omega
    rw [Ne, Prod.ext_iff] at n0
    grind
  · intro h
    rw [h2] at h
    have n1 : ¬ cmpP p q < 0 := fun hh => by have := h1.1 hh; grind
    have n0 : cmpP p q ≠ 0 := fun hh => by
      have := h0.1 hh
      subst this
      grind
    omega
theorem cmpP_trans {p q r : Rat × Rat} (h1 : cmpP p q < 0) (h2 : cmpP q r < 0) : cmpP p r < 0 := by
  rw [cmpP_lt] at h1 h2 ⊢; grind
def Asc (M : List (Rat × Rat)) : Prop := List.Pairwise (fun p q => cmpP p q < 0) M
def insP (M : List (Rat × Rat)) (i : Nat) (p : Rat × Rat) : List (Rat × Rat) := M.take i ++ p :: M.drop i
theorem insP_len {M : List (Rat × Rat)} {i : Nat} {p : Rat × Rat} (hi : i ≤ M.length) : (insP M i p).length = M.length + 1 := by simp [insP]; omega
theorem insP_mem {M : List (Rat × Rat)} {i : Nat} {p x : Rat × Rat} : x ∈ insP M i p ↔ x ∈ M ∨ x = p := by
  rw [insP, List.mem_append, List.mem_cons]
  constructor
  · rintro (h | h | h)
    · exact .inl (List.mem_of_mem_take h)
    · exact .inr h
    · exact .inl (List.mem_of_mem_drop h)
  · rintro (h | h)
    · rw [← List.take_append_drop i M, List.mem_append] at h
      rcases h with h | h
      · exact .inl h
      · exact .inr (.inr h)
    · exact .inr (.inl h)
/-- What the search for the place of p tells. -/
structure Place (M : List (Rat × Rat)) (p : Rat × Rat) (i : Nat) : Prop where
  le : i ≤ M.length
  below : ∀ j, j < i → cmpP (pg M j) p < 0
theorem asc_lt {M : List (Rat × Rat)} (h : Asc M) {i j : Nat} (hij : i < j) (hj : j < M.length) : cmpP (pg M i) (pg M j) < 0 := by
  rw [pg_get (by omega), pg_get hj]
  exact List.pairwise_iff_getElem.1 h i j (by omega) hj hij
theorem mem_pg {M : List (Rat × Rat)} {x : Rat × Rat} : x ∈ M ↔ ∃ j, j < M.length ∧ pg M j = x := by
  have := mem_take_pg (L := M) (k := M.length) (Nat.le_refl _) (p := x)
  rwa [List.take_length] at this
theorem place_new {M : List (Rat × Rat)} {p : Rat × Rat} {i : Nat} (h : Asc M) (hp : Place M p i) (he : i = M.length ∨ 0 < cmpP (pg M i) p) : p ∉ M ∧ Asc (insP M i p) := by
  have hab : ∀ j, i ≤ j → j < M.length → cmpP p (pg M j) < 0 := by
    intro j h1 h2
    rcases he with he | he
    · omega
    · rw [cmpP_gt] at he
      rcases Nat.eq_or_lt_of_le h1 with rfl | h3
      · exact he
      · exact cmpP_trans he (asc_lt h h3 h2)
  constructor
  · intro hm
    obtain ⟨j, hj, rfl⟩ := mem_pg.1 hm
    have hz : cmpP (pg M j) (pg M j) = 0 := cmpP_zero.2 rfl
    rcases Nat.lt_or_ge j i with hlt | hge
    · have := hp.below j hlt; omega
    · have := hab j hge hj; omega
  · unfold Asc insP
    rw [List.pairwise_append, List.pairwise_cons]
    refine ⟨h.sublist (List.take_sublist _ _), ⟨?_, h.sublist (List.drop_sublist _ _)⟩, ?_⟩
    · intro x hx
      obtain ⟨j, hj, rfl⟩ := List.mem_iff_getElem.1 hx
      rw [List.getElem_drop]
      rw [List.length_drop] at hj
      have := hab (i + j) (by omega) (by omega)
      rwa [pg_get (by omega)] at this
    · intro x hx y hy
      obtain ⟨j, hj, rfl⟩ := (mem_take_pg hp.le).1 hx
      rcases List.mem_cons.1 hy with rfl | hy
      · exact hp.below j hj
      · obtain ⟨l, hl, rfl⟩ := List.mem_iff_getElem.1 hy
        rw [List.length_drop] at hl
        have := asc_lt h (i := j) (j := i + l) (by omega) (by omega)
        rw [pg_get (L := M) (i := i + l) (by omega)] at this
        rw [List.getElem_drop]; exact this
theorem place_old {M : List (Rat × Rat)} {p : Rat × Rat} {i : Nat} (hi : i < M.length) (h1 : ¬ cmpP (pg M i) p < 0) (h2 : ¬ 0 < cmpP (pg M i) p) : p ∈ M :=
  mem_pg.2 ⟨i, hi, cmpP_zero.1 (by omega)⟩
/-- The list M holds the first q points of L, in ascending order, each once. -/
structure SortOf (L : List (Rat × Rat)) (q : Nat) (M : List (Rat × Rat)) : Prop where
  asc : Asc M
  mem : ∀ x, x ∈ M ↔ x ∈ L.take q
  len : M.length = dsc L q
theorem SortOf.nil (L : List (Rat × Rat)) : SortOf L 0 [] := ⟨List.Pairwise.nil, fun x => by simp, rfl⟩
theorem take_succ_mem {L : List (Rat × Rat)} {q : Nat} (hq : q < L.length) {x : Rat × Rat} : x ∈ L.take (q + 1) ↔ x ∈ L.take q ∨ x = pg L q := by
  rw [List.take_succ_eq_append_getElem hq, List.mem_append, List.mem_singleton, pg_get hq]
theorem SortOf.new {L M : List (Rat × Rat)} {q i : Nat} (h : SortOf L q M) (hq : q < L.length) (hp : Place M (pg L q) i) (he : i = M.length ∨ 0 < cmpP (pg M i) (pg L q)) : SortOf L (q + 1) (insP M i (pg L q)) := by
  obtain ⟨h1, h2⟩ := place_new h.asc hp he
  refine ⟨h2, fun x => by rw [insP_mem, h.mem, take_succ_mem hq], ?_⟩
  rw [insP_len hp.le, h.len, dsc, if_neg]
  rw [← h.mem]; exact h1
theorem SortOf.old {L M : List (Rat × Rat)} {q i : Nat} (h : SortOf L q M) (hq : q < L.length) (hi : i < M.length) (h1 : ¬ cmpP (pg M i) (pg L q) < 0) (h2 : ¬ 0 < cmpP (pg M i) (pg L q)) : SortOf L (q + 1) M := by
  have hm := place_old hi h1 h2
  refine ⟨h.asc, fun x => by
    rw [h.mem, take_succ_mem hq]
    constructor
    · exact .inl
    · rintro (hx | rfl)
      · exact hx
      · rwa [← h.mem], ?_⟩
  rw [h.len, dsc, if_pos (by rwa [← h.mem]), Nat.add_zero]
/-- Consecutive points differ. -/
def Steps (L : List (Rat × Rat)) : Prop := ∀ i, i + 1 < L.length → pg L i ≠ pg L (i + 1)
theorem Steps.nil : Steps [] := fun i h => by simp at h
theorem Steps.snoc {L : List (Rat × Rat)} {p : Rat × Rat} (h : Steps L) (hp : L = [] ∨ pg L (L.length - 1) ≠ p) : Steps (L ++ [p]) := by
  intro i hi
  rw [List.length_append, List.length_singleton] at hi
  rcases Nat.lt_or_ge (i + 1) L.length with hlt | hge
  · rw [pg_get (by simp; omega), pg_get (by simp; omega), List.getElem_append_left (by omega), List.getElem_append_left (by omega)]
    have := h i hlt
    rwa [pg_get (by omega), pg_get (by omega)] at this
  · have e : i + 1 = L.length := by omega
    rw [pg_get (i := i) (by simp; omega), List.getElem_append_left (by omega)]
    rw [pg_get (i := i + 1) (by simp; omega), List.getElem_append_right (by omega)]
    rcases hp with hp | hp
    · subst hp; simp at e
    · rw [pg_get (by omega)] at hp
      simp only [e, Nat.sub_self, List.getElem_singleton]
      have e2 : L.length - 1 = i := by omega
      simpa only [e2] using hp
theorem Steps.take {L : List (Rat × Rat)} (h : Steps L) (k : Nat) : Steps (L.take k) := by
  intro i hi
  have hl := hi
  rw [List.length_take] at hl
  rw [pg_get (by omega), pg_get hi, List.getElem_take, List.getElem_take]
  have := h i (by omega)
  rwa [pg_get (by omega), pg_get (by omega)] at this
theorem Steps.ring {L : List (Rat × Rat)} (h : Steps L) (h3 : 3 ≤ dsc L L.length) (hc : ¬ pg L 0 = pg L (L.length - 1)) : RingOK L := by
  refine ⟨h3, fun i hi => ?_⟩
  rcases Nat.lt_or_ge (i + 1) L.length with hlt | hge
  · rw [Nat.mod_eq_of_lt hlt]; exact h i hlt
  · have e : i + 1 = L.length := by omega
    rw [e, Nat.mod_self]
    have : i = L.length - 1 := by omega
    rw [this]
    exact fun hh => hc hh.symm
theorem dsc_le (L : List (Rat × Rat)) (k : Nat) : dsc L k ≤ k := by
  induction k with
  | zero => exact Nat.le_refl _
  | succ k ih => rw [dsc]; split <;> omega
/-- A ring of three points. -/
theorem ring3 {p q r : Rat × Rat} (h1 : q ≠ p) (h2 : r ≠ p) (h3 : r ≠ q) : RingOK [p, q, r] := by
  refine ⟨dsc_three (by simp) h1 h2 h3, fun i hi => ?_⟩
  simp only [List.length_cons, List.length_nil] at hi
  rcases (by omega : i = 0 ∨ i = 1 ∨ i = 2) with rfl | rfl | rfl
  · exact fun e => h1 e.symm
  · exact fun e => h3 e.symm
  · have e : (2 + 1) % [p, q, r].length = 0 := by simp
    rw [e]; exact h2
/-- A ring of four points. -/
theorem ring4 {p q r s : Rat × Rat} (h1 : q ≠ p) (h2 : r ≠ p) (h3 : r ≠ q) (h4 : s ≠ r) (h5 : s ≠ p) : RingOK [p, q, r, s] := by
  refine ⟨dsc_three (by simp) h1 h2 h3, fun i hi => ?_⟩
  simp only [List.length_cons, List.length_nil] at hi
  rcases (by omega : i = 0 ∨ i = 1 ∨ i = 2 ∨ i = 3) with rfl | rfl | rfl | rfl
  · exact fun e => h1 e.symm
  · exact fun e => h3 e.symm
  · exact fun e => h4 e.symm
  · have e : (3 + 1) % [p, q, r, s].length = 0 := by simp
    rw [e]; exact h5
end Go.Proofs.YtdlnoeegboapkaaGreatDoor

/- Too few points; ring.Check, ring.Area; the sanity check of the laws of layer 9. printed by a small program (mkrg6.py). -/
namespace Go.Proofs.YtdlnoeegboapkaaGreatDoor
open Go.RowKit
set_option maxRecDepth 100000
set_option maxHeartbeats 40000000
set_option synthInstance.maxSize 100000
set_option synthInstance.maxHeartbeats 1000000
set_option linter.unusedVariables false

theorem ringOfThree {w w0 : World} {a : Option Addr} {n c : Nat} {V : List AV} {L : List (Rat × Rat)} {k : Nat} [hs : Sl w (.slice a n c) V.length (rowA V) w0] [hp : PsA w V L k] {w1 : World} {aR : Addr} [hR0 : Snt w 3 aR w1] (b : k ≤ 19000) (hV : V.length ≤ 4096) (hD : dsc L L.length < 3) :
    Calls Tryz.prog 77 #[.slice a n c] w (RErr w (.slice none 0 0) aR) := by
  obtain rfl := hs.len
  have hlen := Lib.hid hp.len
  have HD := Lib.hid hD
  clear hD
  have hR := hR0.here
  clear hR0
  have hno : ¬ (4096 < (V.length : Int)) := by omega
  go_enter Tryz.func77, Tryz.ntmps77
  go_wp2_with fail
  go_loopw [21, 4] (fun i o wr => ∃ (q : Nat) (U : List FV), i = .int .i64 (q : Int) ∧ q ≤ V.length ∧ Rn wr o 152 6 U.length (rowF U) (w.heap.size + 1 + 1) wr ∧ Hid (U.length = q) ∧ PsF wr U (L.take q) (k + 2) ∧ Bx wr w.heap.size 131 [.slice none 0 0] ∧ Bx wr (w.heap.size + 1) 36 [.nilIface] ∧ Kp w wr) (fun i _ _ => V.length - (intOf i).toNat)
  case atStart => exact ⟨0, [], rfl, by omega, Rn.nil (by simp), Lib.hid rfl, PsF.nil, inferInstance, inferInstance, inferInstance⟩
  case round =>
    obtain ⟨q, U, rfl, hq, i1, hU, i2, i3, i4, i5⟩ := hrel
    have kw := Kp1.mk i5.out
    by_cases hlt : q < V.length
    · obtain ⟨g, rfl, hA⟩ := hs.form (by omega)
      have hlt' : (q : Int) < V.length := by omega
      have lq : LtN q V.length := ⟨hlt⟩
      have ew : IntKind.i64.wrap ((q : Int) + 1) = (q : Int) + 1 := wr_in (by omega) (by omega)
      go_wp2_with (first
        | (go_at_call 142; (with_reducible refine Calls.cE (gNormalA (by omega)) ?_); intros)
        | (go_at_call 123; (with_reducible refine Calls.cPF (ptOfC (by omega)) ?_); intro w1 _ nx dx px ny dy py i7 i8)
        | (at_builtin; go_loud (refine app_rn1 (v := u4) rfl (.tmp 37) (.tmp 40) 131 rfl Tryz.underlying131 info_f rfl (by decide) (by decide) (by decide) inferInstance rfl (rowF_nd _) rfl (by rfl) ?h1 ?h2 (by first | omega | (have := hU.out; omega)) ?_); (case h1 => exact FV.one ⟨_, _, _, _, _, _⟩); (case h2 => exact FV.nd ⟨_, _, _, _, _, _⟩); intro g2 c2 w2 i9 i10 i11))
      go_roundw
      case rel => exact ⟨q + 1, U ++ [⟨nx, dx, px, ny, dy, py⟩], by go_num, by omega, Rn.cast2 (inferInstance) (by simp) (by rw [rowF_snoc]; rfl), Lib.hid (by rw [List.length_append, hU.out]; rfl), by rw [take_pg (by have := hlen.out; omega)]; exact PsF.add (by first | omega | simp) (by first | omega | simp), inferInstance, inferInstance, inferInstance⟩
      case measure => simp [intOf]; omega
    · obtain rfl : q = V.length := by omega
      rw [List.take_of_length_le (by have := hlen.out; omega)] at i2
      have hUl : Hid (U.length = L.length) := Lib.hid (hU.out.trans hlen.out)
      have hU4 : U.length ≤ 4096 := by rw [hU.out]; exact hV
      clear hU hs hq hlt
      obtain ⟨a3, c3, rfl⟩ := i1.slice
      go_wp2_with fail
      go_loopw [45, 7] (fun i d wx => ∃ (q m : Nat), i = .int .i64 (q : Int) ∧ q ≤ U.length ∧ d = .int .i64 (m : Int) ∧ Hid (min 3 (dsc L q) = m) ∧ Kp wr wx) (fun i _ _ => U.length - (intOf i).toNat)
      case atStart => exact ⟨0, 0, rfl, by omega, rfl, Lib.hid rfl, inferInstance⟩
      case round =>
        obtain ⟨q, m, rfl, hq, rfl, hm, j1⟩ := hrel
        have kx := Kp1.mk j1.out
        have hm3 : m ≤ 3 := by rw [← hm.out]; omega
        by_cases hlt : q < U.length
        · have isl : Sl wr (.slice a3 U.length c3) U.length (rowF U) _ := inferInstance
          obtain ⟨g2, rfl, hA2⟩ := isl.form (by omega)
          have hlt' : (q : Int) < U.length := by omega
          have lq : LtN q U.length := ⟨hlt⟩
          have ew : IntKind.i64.wrap ((q : Int) + 1) = (q : Int) + 1 := wr_in (by omega) (by omega)
          have em : IntKind.i64.wrap ((m : Int) + 1) = (m : Int) + 1 := wr_in (by omega) (by omega)
          by_cases h3 : m < 3
          · have h3' : (m : Int) < 3 := by omega
            by_cases hn : pg L q ∈ L.take q
            · go_wp2_with (first
                | (go_at_call 144; go_loud ((with_reducible refine Calls.cFirst (firstC (V := U) (by omega) (by omega) ⟨q, hlt, rfl⟩) ?_); intro w1 _ m1 hm1); have hne : ¬ ((m1 : Int) = (q : Int)) := fun e => (FirstAt.new (by rw [← hUl.out]; exact hlt) hm1).1 (by omega) hn; have hne2 : ((m1 : Int) == (q : Int)) = false := beq_false_of_ne hne; clear hm1))
              go_roundw
              case rel => exact ⟨q + 1, m, by go_num, by omega, rfl, Lib.hid (by have h2 := hm.out; simp only [dsc, if_pos hn]; omega), inferInstance⟩
              case measure => simp [intOf]; omega
            · go_wp2_with (first
                | (go_at_call 144; (with_reducible refine Calls.cFirst (firstC (V := U) (by omega) (by omega) ⟨q, hlt, rfl⟩) ?_); intro w1 _ m1 hm1; obtain rfl : m1 = q := (FirstAt.new (by rw [← hUl.out]; exact hlt) hm1).2 hn; clear hm1))
              go_roundw
              case rel => exact ⟨m1 + 1, m + 1, by go_num, by omega, by go_num, Lib.hid (by have h2 := hm.out; simp only [dsc, if_neg hn]; omega), inferInstance⟩
              case measure => simp [intOf]; omega
          · obtain rfl : m = 3 := by omega
            go_wp2_with fail
            go_roundw
            case rel => exact ⟨q + 1, 3, by go_num, by omega, rfl, Lib.hid (by have h2 := hm.out; have := dsc_mono L (show q ≤ q + 1 by omega); omega), inferInstance⟩
            case measure => simp [intOf]; omega
        · obtain rfl : q = U.length := by omega
          have h3 : m < 3 := by have h2 := HD.out; rw [← hUl.out] at h2; have := hm.out; omega
          have h3' : (m : Int) < 3 := by omega
          go_wp2_with fail
          refine rgn [w.heap.size, w.heap.size + 1] [] fun hHeld => ?_
          refine tk 0 hHeld ?_
          refine tk 1 hHeld ?_
          refine wpAnyT_ready (rs := [2, 4]) (by kernel_rfl) (by simp) ?_
          refine AllT.cons (by simp; rfl) (fun K hK => ?_) (AllT.cons (by simp; rfl) (fun K hK => ?_) AllT.nil)
          go_simp
          refine hd hK ?_
          clear hHeld hK K
          intro hHeld
          refine tk 3 hHeld ?_
          refine st 4 fun K hK => ?_
          go_simp
          refine hd hK ?_
          clear hHeld hK K
          intro hHeld
          refine st 5 fun K hK => ?_
          go_simp
          refine hd hK ?_
          clear hHeld hK K
          intro hHeld
          refine dn ?_
          clear hHeld
          go_wp2
          refine ret_se rfl Tryz.underlying131 rfl Tryz.underlying36 rfl rfl rfl rfl ?_
          exact RErr.fin
          go_simp
          refine hd hK ?_
          clear hHeld hK K
          intro hHeld
          refine st 2 fun K hK => ?_
          go_simp
          refine hd hK ?_
          clear hHeld hK K
          intro hHeld
          refine tk 3 hHeld ?_
          refine st 5 fun K hK => ?_
          go_simp
          refine hd hK ?_
          clear hHeld hK K
          intro hHeld
          refine dn ?_
          clear hHeld
          go_wp2
          refine ret_se rfl Tryz.underlying131 rfl Tryz.underlying36 rfl rfl rfl rfl ?_
          exact RErr.fin
theorem checkOk {w w0 : World} {a : Option Addr} {n c : Nat} {V : List AV} {L : List (Rat × Rat)} {k : Nat} [hs : Sl w (.slice a n c) V.length (rowA V) w0] [hp : PsA w V L k] (b : k ≤ 19000) (hV : V.length ≤ 4096) (hR : RingOK L) :
    Calls Tryz.prog 23 #[.slice a n c] w (fun e w' => e = .returned .nilIface ∧ Below w.heap.size w w') := by
  go_enter Tryz.func23, Tryz.ntmps23
  go_wp2_with (first
    | (go_at_call 77; (with_reducible refine Calls.cPsFEr (ringOfOk b hV hR) ?_); intros))
  go_ret
  exact E.fin rfl
theorem checkLimit {w w1 : World} {a : Option Addr} {n c : Nat} {aL : Addr} [h0 : Snt w 2 aL w1] (hn : 4096 < n) :
    Calls Tryz.prog 23 #[.slice a n c] w (OErr w aL) := by
  go_enter Tryz.func23, Tryz.ntmps23
  go_wp2_with (first
    | (go_at_call 77; (with_reducible refine Calls.cRErr (ringOfLimit hn) ?_); intros))
  go_ret
  exact OErr.fin
theorem checkThree {w w0 : World} {a : Option Addr} {n c : Nat} {V : List AV} {L : List (Rat × Rat)} {k : Nat} [hs : Sl w (.slice a n c) V.length (rowA V) w0] [hp : PsA w V L k] {w1 : World} {aR : Addr} [hR0 : Snt w 3 aR w1] (b : k ≤ 19000) (hV : V.length ≤ 4096) (hD : dsc L L.length < 3) :
    Calls Tryz.prog 23 #[.slice a n c] w (OErr w aR) := by
  go_enter Tryz.func23, Tryz.ntmps23
  go_wp2_with (first
    | (go_at_call 77; (with_reducible refine Calls.cRErr (ringOfThree b hV hD) ?_); intros))
  go_ret
  exact OErr.fin
/-- A number and no error. -/
def AErRet (w : World) (x : Rat) (k : Nat) (e : Ending) (w' : World) : Prop := ∃ g a l c aa ll cc, e = .returned (.tuple #[.agg #[.bool g, .slice a l c, .slice aa ll cc], .nilIface]) ∧ CA w' (.agg #[.bool g, .slice a l c, .slice aa ll cc]) x k ∧ Below w.heap.size w w'
theorem Calls.cAEr {P : Program} {f : FuncId} {args : Array Value} {w : World} {x : Rat} {k : Nat} {K : Ending → World → Prop} (h : Calls P f args w (AErRet w x k))
    (hK : ∀ w' [Kp1 w w'] g a l c aa ll cc [CA w' (.agg #[.bool g, .slice a l c, .slice aa ll cc]) x k], K (.returned (.tuple #[.agg #[.bool g, .slice a l c, .slice aa ll cc], .nilIface])) w') : Calls P f args w K := by
  refine h.mono ?_
  rintro e w' ⟨g, a, l, c, aa, ll, cc, rfl, hx, hb⟩
  exact @hK w' ⟨hb⟩ g a l c aa ll cc hx
theorem AErRet.fin {w w' : World} {g : Bool} {a aa : Option Addr} {l c ll cc k k' : Nat} {x x' : Rat} [b : Kp w w'] [hx : CA w' (.agg #[.bool g, .slice a l c, .slice aa ll cc]) x' k'] (e : x = x') (m : k' ≤ k) : AErRet w x k (.returned (.tuple #[.agg #[.bool g, .slice a l c, .slice aa ll cc], .nilIface])) w' :=
  ⟨g, a, l, c, aa, ll, cc, rfl, hx.cast e.symm m, b.out⟩
theorem ret_b9 {P : Program} {fn : Func} {R : Ending → World → Prop} {a : Act} {W : World} {b : Nat} {p u : Tmp} {ty t : TypeId} {d : TypeDesc} {l l' : List Value} [hb : Bx W b t l] (hr : fn.results = #[.cell p ty, .tmp u])
    (hu : P.underlying ty = some d) (hd : (match d with | .struct _ | .array _ _ => true | _ => false) = true) (hi : (P.info? ty).map (·.size) = some l.length)
    (hp : a.tmps.getD p undef = .pointer (some ⟨b, 0, none⟩)) (hdf : a.defers = []) (hl : l = l') (hR : R (.returned (.tuple #[.agg l'.toArray, a.tmps.getD u undef])) W) : bodyPost P fn R .ret a W := by
  subst hl
  exact ret_ct hr hp (loadVar_at W b ty l d hu hd hi (fun j hj => by rw [cell_bx, List.getElem?_eq_getElem hj])) hdf hR
theorem areaOk {w w0 : World} {a : Option Addr} {n c : Nat} {V : List AV} {L : List (Rat × Rat)} {k : Nat} [hs : Sl w (.slice a n c) V.length (rowA V) w0] [hp : PsA w V L k] (b : k ≤ 4000) (hV : V.length ≤ 10) (hR : RingOK L) :
    Calls Tryz.prog 34 #[.slice a n c] w (AErRet w (areaL L) (40 * k + 200)) := by
  go_enter Tryz.func34, Tryz.ntmps34
  go_wp2_with (first
    | (go_at_call 77; (with_reducible refine Calls.cPsFEr (ringOfOk (by omega) (by omega) hR) ?_); intro w1 _ a1 c1 V1 _ ip1; have hV1 : V1.length ≤ 10 := by rw [ip1.len, ← PsA.len (W := w) (V := V)]; exact hV)
    | (go_at_call 91; (with_reducible refine Calls.cF (geoAreaC (by omega) hV1) ?_); intros)
    | (go_at_call 92; (with_reducible refine Calls.cA (rApiC (by omega)) ?_); intros))
  refine ret_b9 rfl Tryz.underlying29 rfl (by kernel_rfl) rfl rfl rfl ?_
  exact AErRet.fin rfl (by omega)
theorem Sl.ofBx {W : World} {b n c : Nat} {t : TypeId} {xs : List Value} (h : Bx W b t xs) (hc : n ≤ c := by first | omega | decide) : Sl W (.slice (some ⟨b, 0, none⟩) n c) n xs W :=
  ⟨.inr ⟨b, c, rfl, hc, fun j u hu => by rw [cell_bx (h := h)]; exact hu⟩, fun g e => by cases e; exact h.lt, fun g e => by cases e; exact h.lt⟩
theorem toPs3 {w : World} {b k : Nat} {gx1 gy1 : Bool} {ax1 aax1 ay1 aay1 : Option Addr} {lx1 cx1 llx1 ccx1 ly1 cy1 lly1 ccy1 : Nat} {gx2 gy2 : Bool} {ax2 aax2 ay2 aay2 : Option Addr} {lx2 cx2 llx2 ccx2 ly2 cy2 lly2 ccy2 : Nat} {gx3 gy3 : Bool} {ax3 aax3 ay3 aay3 : Option Addr} {lx3 cx3 llx3 ccx3 ly3 cy3 lly3 ccy3 : Nat} {px1 py1 px2 py2 px3 py3 : Rat} {k1 k2 k3 : Nat} [x1 : CQ w (.agg #[.bool gx1, .slice ax1 lx1 cx1, .slice aax1 llx1 ccx1]) px1 k1] [y1 : CQ w (.agg #[.bool gy1, .slice ay1 ly1 cy1, .slice aay1 lly1 ccy1]) py1 k1] [x2 : CQ w (.agg #[.bool gx2, .slice ax2 lx2 cx2, .slice aax2 llx2 ccx2]) px2 k2] [y2 : CQ w (.agg #[.bool gy2, .slice ay2 ly2 cy2, .slice aay2 lly2 ccy2]) py2 k2] [x3 : CQ w (.agg #[.bool gx3, .slice ax3 lx3 cx3, .slice aax3 llx3 ccx3]) px3 k3] [y3 : CQ w (.agg #[.bool gy3, .slice ay3 ly3 cy3, .slice aay3 lly3 ccy3]) py3 k3] [h : Bx w b 47 [.bool gx1, .slice ax1 lx1 cx1, .slice aax1 llx1 ccx1, .bool gy1, .slice ay1 ly1 cy1, .slice aay1 lly1 ccy1, .bool gx2, .slice ax2 lx2 cx2, .slice aax2 llx2 ccx2, .bool gy2, .slice ay2 ly2 cy2, .slice aay2 lly2 ccy2, .bool gx3, .slice ax3 lx3 cx3, .slice aax3 llx3 ccx3, .bool gy3, .slice ay3 ly3 cy3, .slice aay3 lly3 ccy3]] (hk : k ≤ 400000) (b1 : k1 ≤ k) (b2 : k2 ≤ k) (b3 : k3 ≤ k) :
    Calls Tryz.prog 27 #[.slice (some ⟨b, 0, none⟩) 3 3] w (PsARet w [(px1, py1), (px2, py2), (px3, py3)] (k + 1)) := by
  have i1 : Sl w (.slice (some ⟨b, 0, none⟩) 3 3) (List.length (α := AV) [⟨gx1, ax1, lx1, cx1, aax1, llx1, ccx1, gy1, ay1, ly1, cy1, aay1, lly1, ccy1⟩, ⟨gx2, ax2, lx2, cx2, aax2, llx2, ccx2, gy2, ay2, ly2, cy2, aay2, lly2, ccy2⟩, ⟨gx3, ax3, lx3, cx3, aax3, llx3, ccx3, gy3, ay3, ly3, cy3, aay3, lly3, ccy3⟩]) (rowA [⟨gx1, ax1, lx1, cx1, aax1, llx1, ccx1, gy1, ay1, ly1, cy1, aay1, lly1, ccy1⟩, ⟨gx2, ax2, lx2, cx2, aax2, llx2, ccx2, gy2, ay2, ly2, cy2, aay2, lly2, ccy2⟩, ⟨gx3, ax3, lx3, cx3, aax3, llx3, ccx3, gy3, ay3, ly3, cy3, aay3, lly3, ccy3⟩]) w := Sl.ofBx h
  have i2 : PsQ w [⟨gx1, ax1, lx1, cx1, aax1, llx1, ccx1, gy1, ay1, ly1, cy1, aay1, lly1, ccy1⟩, ⟨gx2, ax2, lx2, cx2, aax2, llx2, ccx2, gy2, ay2, ly2, cy2, aay2, lly2, ccy2⟩, ⟨gx3, ax3, lx3, cx3, aax3, llx3, ccx3, gy3, ay3, ly3, cy3, aay3, lly3, ccy3⟩] [(px1, py1), (px2, py2), (px3, py3)] k := (PsQ.add (h := (PsQ.add (h := (PsQ.add (h := PsQ.nil) (k := k) (b1) (b1))) (k := k) (b2) (b2))) (k := k) (b3) (b3))
  exact toPsC hk (by simp)
theorem toPs4 {w : World} {b k : Nat} {gx1 gy1 : Bool} {ax1 aax1 ay1 aay1 : Option Addr} {lx1 cx1 llx1 ccx1 ly1 cy1 lly1 ccy1 : Nat} {gx2 gy2 : Bool} {ax2 aax2 ay2 aay2 : Option Addr} {lx2 cx2 llx2 ccx2 ly2 cy2 lly2 ccy2 : Nat} {gx3 gy3 : Bool} {ax3 aax3 ay3 aay3 : Option Addr} {lx3 cx3 llx3 ccx3 ly3 cy3 lly3 ccy3 : Nat} {gx4 gy4 : Bool} {ax4 aax4 ay4 aay4 : Option Addr} {lx4 cx4 llx4 ccx4 ly4 cy4 lly4 ccy4 : Nat} {px1 py1 px2 py2 px3 py3 px4 py4 : Rat} {k1 k2 k3 k4 : Nat} [x1 : CQ w (.agg #[.bool gx1, .slice ax1 lx1 cx1, .slice aax1 llx1 ccx1]) px1 k1] [y1 : CQ w (.agg #[.bool gy1, .slice ay1 ly1 cy1, .slice aay1 lly1 ccy1]) py1 k1] [x2 : CQ w (.agg #[.bool gx2, .slice ax2 lx2 cx2, .slice aax2 llx2 ccx2]) px2 k2] [y2 : CQ w (.agg #[.bool gy2, .slice ay2 ly2 cy2, .slice aay2 lly2 ccy2]) py2 k2] [x3 : CQ w (.agg #[.bool gx3, .slice ax3 lx3 cx3, .slice aax3 llx3 ccx3]) px3 k3] [y3 : CQ w (.agg #[.bool gy3, .slice ay3 ly3 cy3, .slice aay3 lly3 ccy3]) py3 k3] [x4 : CQ w (.agg #[.bool gx4, .slice ax4 lx4 cx4, .slice aax4 llx4 ccx4]) px4 k4] [y4 : CQ w (.agg #[.bool gy4, .slice ay4 ly4 cy4, .slice aay4 lly4 ccy4]) py4 k4] [h : Bx w b 47 [.bool gx1, .slice ax1 lx1 cx1, .slice aax1 llx1 ccx1, .bool gy1, .slice ay1 ly1 cy1, .slice aay1 lly1 ccy1, .bool gx2, .slice ax2 lx2 cx2, .slice aax2 llx2 ccx2, .bool gy2, .slice ay2 ly2 cy2, .slice aay2 lly2 ccy2, .bool gx3, .slice ax3 lx3 cx3, .slice aax3 llx3 ccx3, .bool gy3, .slice ay3 ly3 cy3, .slice aay3 lly3 ccy3, .bool gx4, .slice ax4 lx4 cx4, .slice aax4 llx4 ccx4, .bool gy4, .slice ay4 ly4 cy4, .slice aay4 lly4 ccy4]] (hk : k ≤ 400000) (b1 : k1 ≤ k) (b2 : k2 ≤ k) (b3 : k3 ≤ k) (b4 : k4 ≤ k) :
    Calls Tryz.prog 27 #[.slice (some ⟨b, 0, none⟩) 4 4] w (PsARet w [(px1, py1), (px2, py2), (px3, py3), (px4, py4)] (k + 1)) := by
  have i1 : Sl w (.slice (some ⟨b, 0, none⟩) 4 4) (List.length (α := AV) [⟨gx1, ax1, lx1, cx1, aax1, llx1, ccx1, gy1, ay1, ly1, cy1, aay1, lly1, ccy1⟩, ⟨gx2, ax2, lx2, cx2, aax2, llx2, ccx2, gy2, ay2, ly2, cy2, aay2, lly2, ccy2⟩, ⟨gx3, ax3, lx3, cx3, aax3, llx3, ccx3, gy3, ay3, ly3, cy3, aay3, lly3, ccy3⟩, ⟨gx4, ax4, lx4, cx4, aax4, llx4, ccx4, gy4, ay4, ly4, cy4, aay4, lly4, ccy4⟩]) (rowA [⟨gx1, ax1, lx1, cx1, aax1, llx1, ccx1, gy1, ay1, ly1, cy1, aay1, lly1, ccy1⟩, ⟨gx2, ax2, lx2, cx2, aax2, llx2, ccx2, gy2, ay2, ly2, cy2, aay2, lly2, ccy2⟩, ⟨gx3, ax3, lx3, cx3, aax3, llx3, ccx3, gy3, ay3, ly3, cy3, aay3, lly3, ccy3⟩, ⟨gx4, ax4, lx4, cx4, aax4, llx4, ccx4, gy4, ay4, ly4, cy4, aay4, lly4, ccy4⟩]) w := Sl.ofBx h
  have i2 : PsQ w [⟨gx1, ax1, lx1, cx1, aax1, llx1, ccx1, gy1, ay1, ly1, cy1, aay1, lly1, ccy1⟩, ⟨gx2, ax2, lx2, cx2, aax2, llx2, ccx2, gy2, ay2, ly2, cy2, aay2, lly2, ccy2⟩, ⟨gx3, ax3, lx3, cx3, aax3, llx3, ccx3, gy3, ay3, ly3, cy3, aay3, lly3, ccy3⟩, ⟨gx4, ax4, lx4, cx4, aax4, llx4, ccx4, gy4, ay4, ly4, cy4, aay4, lly4, ccy4⟩] [(px1, py1), (px2, py2), (px3, py3), (px4, py4)] k := (PsQ.add (h := (PsQ.add (h := (PsQ.add (h := (PsQ.add (h := PsQ.nil) (k := k) (b1) (b1))) (k := k) (b2) (b2))) (k := k) (b3) (b3))) (k := k) (b4) (b4))
  exact toPsC hk (by simp)
theorem known09C {w w1 : World} {aR : Addr} [hR0 : Snt w 3 aR w1] : Calls Tryz.prog 24 #[] w fun e w' => e = .returned (.bool true) ∧ Below w.heap.size w w' := by
  have hR := hR0.here
  clear hR0
  have r1 : RingOK [(((0 : Int) : Rat), ((0 : Int) : Rat)), (((2 : Int) : Rat), ((0 : Int) : Rat)), (((0 : Int) : Rat), ((2 : Int) : Rat))] := ring3 (by decide +kernel) (by decide +kernel) (by decide +kernel)
  have r2 : dsc [(((0 : Int) : Rat), ((0 : Int) : Rat)), (((1 : Int) : Rat), ((0 : Int) : Rat)), (((0 : Int) : Rat), ((0 : Int) : Rat)), (((1 : Int) : Rat), ((0 : Int) : Rat))] 4 < 3 := by decide +kernel
  have R2 := Lib.hid r2
  have R1 := Lib.hid r1
  clear r1 r2
  have r3 : Hid (isgn (areaL [(((0 : Int) : Rat), ((0 : Int) : Rat)), (((2 : Int) : Rat), ((0 : Int) : Rat)), (((0 : Int) : Rat), ((2 : Int) : Rat))] - ((2 : Int) : Rat)).num = 0) := by show _ = _; decide +kernel
  go_enter Tryz.func24, Tryz.ntmps24
  go_wp2_with (go_at_call 22; (with_reducible refine Calls.cPQ (refXyC (by omega)) ?_); intros)
  with_reducible refine Calls.cPsARet (toPs3 (k := 4) (by omega) (by omega) (by omega) (by omega)) ?_
  intro v1 _ sa1 sc1 V1 _ ip1
  have hV1 := Lib.hid (show V1.length = 3 from ip1.len)
  go_wp2_with (first
    | (go_at_call 22; (with_reducible refine Calls.cPQ (refXyC (by omega)) ?_); intros)
    | (go_at_call 34; (with_reducible refine Calls.cAEr (areaOk (V := V1) (by omega) (by have := hV1.out; omega) R1.out) ?_); intro v2 _ g2 a2 l2 c2 aa2 ll2 cc2 _; clear hV1 ip1))
  with_reducible refine Calls.cPsARet (toPs4 (k := 4) (by omega) (by omega) (by omega) (by omega) (by omega)) ?_
  intro v3 _ sa3 sc3 V3 _ ip3
  have hV3 := Lib.hid (show V3.length = 4 from ip3.len)
  go_wp2_with (first
    | (go_at_call 23; (with_reducible refine Calls.cOErr (checkThree (V := V3) (by omega) (by have := hV3.out; omega) R2.out) ?_); intros)
    | (go_at_call 56; (with_reducible refine Calls.cQ (refQC (by omega)) ?_); intros)
    | (go_at_call 76; (with_reducible refine Calls.cQ (numOfC (by omega)) ?_); intros)
    | (go_at_call 78; (with_reducible refine Calls.cE (numCV (by omega) r3) ?_); intros)
    | (go_at_call 18; (with_reducible refine Calls.cS isSameC ?_)))
  go_ret
  exact E.fin rfl
end Go.Proofs.YtdlnoeegboapkaaGreatDoor
