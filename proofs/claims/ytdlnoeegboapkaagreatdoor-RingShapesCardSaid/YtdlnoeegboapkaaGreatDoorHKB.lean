/-
  Texts of this claim, joined: Tail2, Rg22, Rh1.
-/
import Derived.Test.YtdlnoeegboapkaaGreatDoorCF
import Derived.Test.YtdlnoeegboapkaaGreatDoorHKA
import Derived.Test.YtdlnoeegboapkaaGreatDoorCM
import Derived.Test.YtdlnoeegboapkaaGreatDoorCJ
namespace Go.Proofs.YtdlnoeegboapkaaGreatDoor
open Go.RowKit
set_option linter.unusedVariables false
set_option maxHeartbeats 40000000
set_option maxRecDepth 100000
set_option synthInstance.maxHeartbeats 1000000
set_option synthInstance.maxSize 100000
section
section
variable {P : Program} {ops : Array Oper} {Q : Exit → Act → World → Prop} {md : Region.Mode} {S : World → Prop} {T : Nat → Bool}
def chain (md : Region.Mode) (ops : Array Oper) (W : List Nat) (i : Nat) : Bool := W.all fun j => match ops[j]? with
  | some o => o.after.any fun e => Region.binds md e && (e.on == i || W.contains e.on)
  | none => false
theorem chain_not {W : List Nat} {i j : Nat} {oj : Oper} (h : chain md ops W i = true) (hj : j ∈ W) (hoj : ops[j]? = some oj) : ∃ e ∈ oj.after, Region.binds md e = true ∧ (e.on = i ∨ e.on ∈ W) := by
  have h1 := List.all_eq_true.1 h j hj
  rw [hoj] at h1; obtain ⟨e, he, h2⟩ := Array.any_eq_true'.1 h1; simp only [Bool.and_eq_true, Bool.or_eq_true, beq_iff_eq, List.contains_iff_mem] at h2; exact ⟨e, he, h2.1, h2.2⟩
theorem wpAnyT_firstW {i : Nat} {oi : Oper} {v : Value} {W : List Nat} (hi : ops[i]? = some oi) (hsel : ∀ (j : Nat) (o : Oper) cs b, ops[j]? = some o → o.op ≠ .select cs b)
    (hQ : ∀ c a w, Q (.panic c) (a.put oi.dst v) w → Q (.panic c) a w) (hT : ∀ j, T j = true → j ∈ W) (hW : chain md ops W i = true) :
    ∀ (fuel : Nat) (listed : Array Bool) (a : Act) (w : World), (∀ j ∈ W, listed.getD j true = false) →
      (∀ j oj, ops[j]? = some oj → j ≠ i → listed.getD j true = false → (∀ e ∈ oj.after, Region.binds md e = true → e.on ≠ i) → oi.apart ops oj = true) →
      i ∈ Region.ready md ops listed → YieldsIf P ops S oi v a → S w →
      wpAnyT P md ops Q S T fuel (listed.setIfInBounds i true) (a.put oi.dst v) w → wpAnyT P md ops Q S T (fuel + 1) listed a w := by
  intro fuel
  induction fuel with
  | zero =>
    intro listed a w _ _ hr hy hS H
    refine ⟨fun h => (by rw [h] at hr; cases hr), fun j hj => ?_⟩
    by_cases hji : j = i
    · subst hji; exact hy.wpOp hi hS ⟨fun _ => hS, H⟩
    · have h0 := ready_mono hj hji
      rw [H.1] at h0
      cases h0
  | succ fuel ih =>
    intro listed a w hun hfree hr hy hS H
    refine ⟨fun h => (by rw [h] at hr; cases hr), fun j hj => ?_⟩
    by_cases hji : j = i
    · subst hji; exact hy.wpOp hi hS ⟨fun _ => hS, H⟩
    · obtain ⟨hjun, oj, hoj, hall⟩ := mem_ready.1 hj
      have hiun := (mem_ready.1 hr).1
      have hnot : ∀ e ∈ oj.after, Region.binds md e = true → e.on ≠ i := fun e he hb heq => by
        have h1 := hall e he hb
        rw [heq] at h1
        rcases Nat.lt_or_ge i listed.size with h' | h'
        · simp [h'] at hiun h1; rw [hiun] at h1; cases h1
        · simp [Array.getElem?_eq_none h'] at h1
      have hjW : j ∉ W := fun hc => by
        obtain ⟨e, he, hb, ho⟩ := chain_not hW hc hoj
        rcases ho with ho | ho
        · exact absurd ho (hnot e he hb)
        · have h1 := hall e he hb
          have h2 := hun e.on ho
          rcases Nat.lt_or_ge e.on listed.size with h' | h'
          · simp [h'] at h1 h2; rw [h2] at h1; cases h1
          · simp [Array.getElem?_eq_none h'] at h1
      have hTj : T j = false := by
        cases hc : T j with
        | false => rfl
        | true => exact absurd (hT j hc) hjW
      have k := wpOp_putIf hoj (hfree j oj hoj hji hjun hnot) (fun cs b => hsel i oi cs b hi) (fun cs b => hsel j oj cs b hoj) hQ hy (H.2 j (ready_mono hj hji))
      refine wpOp_mono (fun a' w' q => ⟨fun _ => q.2.1 hTj, ih (listed.setIfInBounds j true) a' w' (fun m hm => ?_) (fun m om hm hmi hun2 hno => hfree m om hm hmi ?_ hno) (ready_mono hr (Ne.symm hji)) q.1 (q.2.1 hTj) ?_⟩) k
      · have hne : j ≠ m := fun e => hjW (by rw [e]; exact hm)
        rw [getD_set_ne true hne]; exact hun m hm
      · by_cases hjm : j = m
        · subst hjm; exact hjun
        · rw [getD_set_ne true hjm] at hun2; exact hun2
      · rw [Array.setIfInBounds_comm _ _ hji]; exact q.2.2
end
section
variable {P : Program} {ops : Array Oper} {Q : Exit → Act → World → Prop} {md : Region.Mode} {w0 : World} {L Ts : List Nat}
theorem tkW (i : Nat) (W : List Nat) {oi : Oper} {v : Value} {fuel : Nat} {listed : Array Bool} {a a' : Act} {w : World} (hS : Ex w0 L w) (h : wpAnyT P md ops Q (Ex w0 L) Ts.contains fuel (listed.setIfInBounds i true) a' w)
    (hi : ops[i]? = some oi := by simp; rfl) (hs : Region.noSelect ops = true := by kernel_rfl) (hf : Region.free md ops listed i = true := by kernel_rfl) (hr : (Region.ready md ops listed).contains i = true := by kernel_rfl)
    (hQ : ∀ c a w, Q (.panic c) (a.put oi.dst v) w → Q (.panic c) a w := by exact fun _ _ _ h => h) (hT : (Ts.all fun j => W.contains j) = true := by rfl) (hW : chain md ops W i = true := by kernel_rfl) (hU : (W.all fun j => !listed.getD j true) = true := by kernel_rfl) (hw : Region.wanted oi (yielded ops a.tmps) = true := by rfl)
    (hy : ∀ wx, Ex w0 L wx → (execOp a.eval oi).run P wx = .ok (.value v) wx := by (intro wx hSw; have hSx := Ex1.mk hSw; go_simp; try with_reducible rfl))
    (ha : a.put oi.dst v = a' := by (simp only [Act.put, List.setIfInBounds_toArray, List.set_cons_zero, List.set_cons_succ]; first | done | rfl)) : wpAnyT P md ops Q (Ex w0 L) Ts.contains (fuel + 1) listed a w := by
  subst ha
  refine wpAnyT_firstW hi (Region.noSelect_spec hs) hQ (fun j hj => ?_) hW fuel listed a w (fun j hj => ?_) (Region.free_spec hi hf) (by simpa using hr) (Or.inl ⟨hw, hy⟩) hS h
  · have h1 := List.all_eq_true.1 hT j (by simpa using hj)
    simpa using h1
  · have h1 := List.all_eq_true.1 hU j hj
    simpa using h1
end
end
section
theorem info_i : (Tryz.prog.info? 3).map (fun i => (i.zero, i.size, i.bytes)) = some (some (.int .i64 0), 1, 8) := by kernel_rfl
def rowI (Z : List Int) : List Value := Z.map (.int .i64 ·)
theorem rowI_nd (Z : List Int) : ∀ u ∈ rowI Z, isDigit32 u = false := by
  intro u hu; obtain ⟨z, _, rfl⟩ := List.mem_map.1 hu; rfl
theorem rowI_snoc (Z : List Int) (z : Int) : rowI (Z ++ [z]) = rowI Z ++ [.int .i64 z] := by simp [rowI]
def turnA (L : List (Rat × Rat)) (i : Nat) : Int := orientR (pg L ((i + L.length - 1) % L.length)).1 (pg L ((i + L.length - 1) % L.length)).2 (pg L i).1 (pg L i).2 (pg L ((i + 1) % L.length)).1 (pg L ((i + 1) % L.length)).2
def turnsL (L : List (Rat × Rat)) : List Int := (List.range L.length).map (turnA L)
def IsEr (w : World) (Z : List Int) (e : Ending) (w' : World) : Prop := ∃ (a : Option Addr) (c : Nat), e = .returned (.tuple #[.slice a Z.length c, .nilIface]) ∧ Sl w' (.slice a Z.length c) Z.length (rowI Z) w' ∧ Below w.heap.size w w'
theorem Calls.cIsEr {P : Program} {f : FuncId} {args : Array Value} {w : World} {Z : List Int} {K : Ending → World → Prop} (h : Calls P f args w (IsEr w Z))
    (hK : ∀ w' [Kp1 w w'] (a : Option Addr) (c : Nat) [Sl w' (.slice a Z.length c) Z.length (rowI Z) w'], K (.returned (.tuple #[.slice a Z.length c, .nilIface])) w') : Calls P f args w K := by
  refine h.mono ?_
  rintro e w' ⟨a, c, rfl, hs, hb⟩
  exact @hK w' ⟨hb⟩ a c hs
theorem rTurnsC {w w0 : World} {a : Option Addr} {n c : Nat} {V : List AV} {L : List (Rat × Rat)} {k : Nat} [hs : Sl w (.slice a n c) V.length (rowA V) w0] [hp : PsA w V L k] (b : k ≤ 4900) (hV : V.length ≤ 1000) (hR : RingOK L) :
    Calls Tryz.prog 46 #[.slice a n c] w (IsEr w (turnsL L)) := by
  have hpos := hR.pos
  go_enter Tryz.func46, Tryz.ntmps46; go_wp2_with fail
  with_reducible refine Calls.cPsFEr (ringOfOk (by omega) (by omega) hR) ?_
  intro w1 _ a1 c1 V1 _ ip1
  have hV1 : V1.length ≤ 1000 := by rw [ip1.len, ← PsA.len (W := w) (V := V)]; exact hV
  have hV2 : 0 < V1.length := by rw [ip1.len]; exact hpos
  have hlen := Lib.hid ip1.len
  have sl1 : Sl w1 (.slice a1 V1.length c1) V1.length (rowF V1) w1 := inferInstance
  obtain ⟨g, rfl, hA⟩ := sl1.form hV2; clear hR hpos; go_wp2_with fail
  go_loopw [22, 7] (fun i o wr => ∃ q : Nat, i = .int .i64 (q : Int) ∧ q ≤ V1.length ∧ Rn wr o 3 1 q (rowI ((List.range q).map (turnA L))) w1.heap.size wr ∧ Kp w1 wr) (fun i _ _ => V1.length - (intOf i).toNat)
  case atStart => exact ⟨0, rfl, by omega, Rn.nil (Nat.le_refl _), inferInstance⟩
  case round =>
    obtain ⟨q, rfl, hq, i1, i2⟩ := hrel; have kw := Kp1.mk i2.out
    by_cases hlt : q < V1.length
    · have hlt' : (q : Int) < V1.length := by omega
      have lq : LtN q V1.length := ⟨hlt⟩
      have ew : IntKind.i64.wrap ((q : Int) + 1) = (q : Int) + 1 := wr_in (by omega) (by omega)
      have ew1 : IntKind.i64.wrap ((q : Int) + V1.length) = (q : Int) + V1.length := wr_in (by omega) (by omega)
      have ew2 : IntKind.i64.wrap ((q : Int) + V1.length - 1) = (q : Int) + V1.length - 1 := wr_in (by omega) (by omega)
      obtain ⟨m, hm0⟩ : ∃ m, (q + 1) % V1.length = m := ⟨_, rfl⟩
      have hm : m < V1.length := by rw [← hm0]; exact Nat.mod_lt _ (by omega)
      have lm : LtN m V1.length := ⟨hm⟩; have hm' : (m : Int) < V1.length := (by omega)
      have er : ((q : Int) + 1).tmod (V1.length : Int) = (m : Int) := by
        rw [← hm0, show (q : Int) + 1 = ((q + 1 : Nat) : Int) by omega]; exact (Int.ofNat_tmod _ _).symm
      obtain ⟨p, hp0⟩ : ∃ p, (q + V1.length - 1) % V1.length = p := ⟨_, rfl⟩
      have hpl : p < V1.length := by rw [← hp0]; exact Nat.mod_lt _ (by omega)
      have lp : LtN p V1.length := ⟨hpl⟩; have hpl' : (p : Int) < V1.length := (by omega)
      have er2 : ((q : Int) + V1.length - 1).tmod (V1.length : Int) = (p : Int) := by
        rw [← hp0, show (q : Int) + V1.length - 1 = ((q + V1.length - 1 : Nat) : Int) by omega]; exact (Int.ofNat_tmod _ _).symm
      obtain ⟨v, hv0⟩ : ∃ v, turnA L q = v := ⟨_, rfl⟩
      have HV : Hid (orientR (pg L p).1 (pg L p).2 (pg L q).1 (pg L q).2 (pg L m).1 (pg L m).2 = v) := Lib.hid (by rw [← hv0, turnA, ← hlen.out, hp0, hm0])
      have HW := Lib.hid hv0; have hz : ¬ ((V1.length : Int) = 0) := (by omega); have hz2 : ¬ (V1.length = 0) := (by omega); clear hm0 hp0 hv0; go_wp2_with fail; refine rgn [] [20, 21] fun hH => ?_; refine tk 0 hH ?_; refine tkW 1 [8, 9, 18, 19, 20, 21] hH ?_; refine tkW 2 [4, 5, 7, 8, 9, 18, 19, 20, 21] hH ?_; refine tkW 3 [4, 5, 7, 8, 9, 18, 19, 20, 21] hH ?_; refine tkW 4 [5, 7, 8, 9, 18, 19, 20, 21] hH ?_; refine tkW 5 [7, 8, 9, 18, 19, 20, 21] hH ?_; refine tkW 6 [7, 8, 9, 18, 19, 20, 21] hH ?_; refine tkW 7 [8, 9, 18, 19, 20, 21] hH ?_; refine tkW 8 [9, 18, 19, 20, 21] hH ?_; refine tkW 9 [18, 19, 20, 21] hH ?_; refine tkW 10 [18, 19, 20, 21] hH ?_; refine tkW 11 [16, 17, 18, 19, 20, 21] hH ?_; refine tkW 12 [13, 15, 16, 17, 18, 19, 20, 21] hH ?_; refine tkW 13 [15, 16, 17, 18, 19, 20, 21] hH ?_; refine tkW 14 [15, 16, 17, 18, 19, 20, 21] hH ?_; refine tkW 15 [16, 17, 18, 19, 20, 21] hH ?_; refine tkW 16 [17, 18, 19, 20, 21] hH ?_; refine tkW 17 [18, 19, 20, 21] hH ?_; refine st 18 fun K hK => ?_; go_simp; (with_reducible refine Calls.cE (orientV (by omega) HV) ?_); intros; refine hd hK ?_; clear hH hK K; intro hH; refine st 19 fun K hK => ?_; go_simp; refine hd hK ?_; clear hH hK K; intro hH; refine st 20 fun K hK => ?_; rw [if_pos (by rfl)]
      refine appO_own (v := u7) (.tmp 27) (.tmp 46) 22 rfl Tryz.underlying22 info_i rfl (by decide) (by decide) (by decide) inferInstance rfl (rowI_nd _) rfl (l := [.int .i64 v]) (fun j u hu => by rw [add_off, Nat.zero_add, cell_bx]; exact hu) rfl (by simp [Value.oneCell']) (by simp [isDigit32]) (by omega) (by omega) ?_
      intro g5 c5 W5 k5 k5n i5; refine hdT hK ?_; clear hK K; refine tk0 21 ?_; refine dn ?_; clear hH; go_wp2
      go_roundw
      case rel => exact ⟨q + 1, by go_num, by omega, Rn.cast2 i5 rfl (by rw [List.range_succ, List.map_append, List.map_cons, List.map_nil, rowI_snoc, HW.out]), inferInstance⟩
      case measure => simp [intOf]; omega
    · obtain rfl : q = V1.length := by omega
      obtain ⟨a3, c3, rfl⟩ := i1.slice; go_wp2_with fail; go_ret2
      have e3 : (turnsL L).length = V1.length := by rw [turnsL, List.length_map, List.length_range, hlen.out]
      have e4 : turnsL L = (List.range V1.length).map (turnA L) := by rw [turnsL, hlen.out]
      have sl := Sl.ofRn (h := i1)
      refine ⟨a3, c3, by rw [e3]; rfl, ?_, (inferInstance : Kp w _).out⟩
      rw [e3, e4]; exact sl.here
end
section
def IsRet (w : World) (Z : List Int) (e : Ending) (w' : World) : Prop := ∃ (a : Option Addr) (c : Nat), e = .returned (.slice a Z.length c) ∧ Sl w' (.slice a Z.length c) Z.length (rowI Z) w' ∧ Below w.heap.size w w'
theorem Calls.cIs {P : Program} {f : FuncId} {args : Array Value} {w : World} {Z : List Int} {K : Ending → World → Prop} (h : Calls P f args w (IsRet w Z))
    (hK : ∀ w' [Kp1 w w'] (a : Option Addr) (c : Nat) [Sl w' (.slice a Z.length c) Z.length (rowI Z) w'], K (.returned (.slice a Z.length c)) w') : Calls P f args w K := by
  refine h.mono ?_
  rintro e w' ⟨a, c, rfl, hs, hb⟩
  exact @hK w' ⟨hb⟩ a c hs
theorem refTurnsC {w w0 : World} {a : Option Addr} {n c : Nat} {V : List AV} {L : List (Rat × Rat)} {k : Nat} [hs : Sl w (.slice a n c) V.length (rowA V) w0] [hp : PsQ w V L k] (b : k ≤ 1000) (hV : V.length ≤ 1000) (hV2 : 0 < V.length) :
    Calls Tryz.prog 49 #[.slice a n c] w (IsRet w (turnsL L)) := by
  obtain rfl := hs.len; have hlen := Lib.hid hp.len; obtain ⟨g, rfl, hA0⟩ := hs.form hV2
  have hA : At w g (rowA V) w := ⟨hA0.out, hA0.ltW, hA0.ltW⟩
  clear hA0 hs; go_enter Tryz.func49, Tryz.ntmps49; go_wp2_with fail
  go_loopw [10, 3] (fun i o wr => ∃ q : Nat, i = .int .i64 (q : Int) ∧ q ≤ V.length ∧ Rn wr o 3 1 q (rowI ((List.range q).map (turnA L))) w.heap.size wr ∧ Kp w wr) (fun i _ _ => V.length - (intOf i).toNat)
  case atStart => exact ⟨0, rfl, by omega, Rn.nil (Nat.le_refl _), inferInstance⟩
  case round =>
    obtain ⟨q, rfl, hq, i1, i2⟩ := hrel; have kw := Kp1.mk i2.out
    by_cases hlt : q < V.length
    · have hlt' : (q : Int) < V.length := by omega
      have lq : LtN q V.length := ⟨hlt⟩
      have ew : IntKind.i64.wrap ((q : Int) + 1) = (q : Int) + 1 := wr_in (by omega) (by omega)
      have ew : IntKind.i64.wrap ((q : Int) + V.length) = (q : Int) + V.length := wr_in (by omega) (by omega)
      have ew2 : IntKind.i64.wrap ((q : Int) + V.length - 1) = (q : Int) + V.length - 1 := wr_in (by omega) (by omega)
      obtain ⟨m, hm0⟩ : ∃ m, (q + 1) % V.length = m := ⟨_, rfl⟩
      have hm : m < V.length := by rw [← hm0]; exact Nat.mod_lt _ (by omega)
      have lm : LtN m V.length := ⟨hm⟩; have hm' : (m : Int) < V.length := (by omega)
      have er : ((q : Int) + 1).tmod (V.length : Int) = (m : Int) := by
        rw [← hm0, show (q : Int) + 1 = ((q + 1 : Nat) : Int) by omega]; exact (Int.ofNat_tmod _ _).symm
      obtain ⟨p, hp0⟩ : ∃ p, (q + V.length - 1) % V.length = p := ⟨_, rfl⟩
      have hpl : p < V.length := by rw [← hp0]; exact Nat.mod_lt _ (by omega)
      have lp : LtN p V.length := ⟨hpl⟩; have hpl' : (p : Int) < V.length := (by omega)
      have er2 : ((q : Int) + V.length - 1).tmod (V.length : Int) = (p : Int) := by
        rw [← hp0, show (q : Int) + V.length - 1 = ((q + V.length - 1 : Nat) : Int) by omega]; exact (Int.ofNat_tmod _ _).symm
      obtain ⟨v, hv0⟩ : ∃ v, turnA L q = v := ⟨_, rfl⟩
      have HV : Hid (orientR (pg L p).1 (pg L p).2 (pg L q).1 (pg L q).2 (pg L m).1 (pg L m).2 = v) := Lib.hid (by rw [← hv0, turnA, ← hlen.out, hp0, hm0])
      have HW := Lib.hid hv0; have hz : ¬ ((V.length : Int) = 0) := (by omega); have hz2 : ¬ (V.length = 0) := (by omega); clear hm0 hp0 hv0; go_wp2_with fail; refine rgn [] [23, 24] fun hH => ?_; refine tk 0 hH ?_; refine tkW 1 [8, 9, 21, 22, 23, 24] hH ?_; refine tkW 2 [4, 5, 7, 8, 9, 21, 22, 23, 24] hH ?_; refine tkW 3 [4, 5, 7, 8, 9, 21, 22, 23, 24] hH ?_; refine tkW 4 [5, 7, 8, 9, 21, 22, 23, 24] hH ?_; refine tkW 5 [7, 8, 9, 21, 22, 23, 24] hH ?_; refine tkW 6 [7, 8, 9, 21, 22, 23, 24] hH ?_; refine tkW 7 [8, 9, 21, 22, 23, 24] hH ?_; refine tkW 8 [9, 21, 22, 23, 24] hH ?_; refine tkW 9 [21, 22, 23, 24] hH ?_; refine tkW 10 [12, 13, 21, 22, 23, 24] hH ?_; refine tkW 11 [12, 13, 21, 22, 23, 24] hH ?_; refine tkW 12 [13, 21, 22, 23, 24] hH ?_; refine tkW 13 [21, 22, 23, 24] hH ?_; refine tkW 14 [19, 20, 21, 22, 23, 24] hH ?_; refine tkW 15 [16, 18, 19, 20, 21, 22, 23, 24] hH ?_; refine tkW 16 [18, 19, 20, 21, 22, 23, 24] hH ?_; refine tkW 17 [18, 19, 20, 21, 22, 23, 24] hH ?_; refine tkW 18 [19, 20, 21, 22, 23, 24] hH ?_; refine tkW 19 [20, 21, 22, 23, 24] hH ?_; refine tkW 20 [21, 22, 23, 24] hH ?_; refine st 21 fun K hK => ?_; go_simp; (with_reducible refine Calls.cE (refOrientV (by omega) HV) ?_); intros; refine hd hK ?_; clear hH hK K; intro hH; refine st 22 fun K hK => ?_; go_simp; refine hd hK ?_; clear hH hK K; intro hH; refine st 23 fun K hK => ?_; rw [if_pos (by rfl)]
      refine appO_own (v := u3) (.tmp 13) (.tmp 35) 22 rfl Tryz.underlying22 info_i rfl (by decide) (by decide) (by decide) inferInstance rfl (rowI_nd _) rfl (l := [.int .i64 v]) (fun j u hu => by rw [add_off, Nat.zero_add, cell_bx]; exact hu) rfl (by simp [Value.oneCell']) (by simp [isDigit32]) (by omega) (by omega) ?_
      intro g5 c5 W5 k5 k5n i5; refine hdT hK ?_; clear hK K; refine tk0 24 ?_; refine dn ?_; clear hH; go_wp2
      go_roundw
      case rel => exact ⟨q + 1, by go_num, by omega, Rn.cast2 i5 rfl (by rw [List.range_succ, List.map_append, List.map_cons, List.map_nil, rowI_snoc, HW.out]), inferInstance⟩
      case measure => simp [intOf]; omega
    · obtain rfl : q = V.length := by omega
      obtain ⟨a3, c3, rfl⟩ := i1.slice; go_wp2_with fail; go_ret
      have e3 : (turnsL L).length = V.length := by rw [turnsL, List.length_map, List.length_range, hlen.out]
      have e4 : turnsL L = (List.range V.length).map (turnA L) := by rw [turnsL, hlen.out]
      have sl := Sl.ofRn (h := i1)
      refine ⟨a3, c3, by rw [e3]; rfl, ?_, (inferInstance : Kp w _).out⟩
      rw [e3, e4]; exact sl.here
end
end Go.Proofs.YtdlnoeegboapkaaGreatDoor
