/-
  Texts of this claim, joined: Rg23, Rg25.
-/
import Derived.Test.YtdlnoeegboapkaaGreatDoorCO
import Derived.Test.YtdlnoeegboapkaaGreatDoorCJ
import Derived.Test.YtdlnoeegboapkaaGreatDoorHKI
namespace Go.Proofs.YtdlnoeegboapkaaGreatDoor
open Go.RowKit
set_option linter.unusedVariables false
set_option maxHeartbeats 40000000
set_option maxRecDepth 100000
set_option synthInstance.maxHeartbeats 1000000
set_option synthInstance.maxSize 100000
section
attribute [local go_sem] Oper.semAt_some
def EdgL (L : List (Rat × Rat)) (i : Nat) : Prop := ∀ k, k < L.length → k ≠ i → k ≠ (i + 1) % L.length → 0 < det3 (pg L i) (pg L ((i + 1) % L.length)) (pg L k)
theorem orT3 (p q r : Rat × Rat) : (orientR p.1 p.2 q.1 q.2 r.1 r.2 = 1 ∧ 0 < det3 p q r) ∨ (orientR p.1 p.2 q.1 q.2 r.1 r.2 = 0 ∧ ¬ 0 < det3 p q r) ∨ (orientR p.1 p.2 q.1 q.2 r.1 r.2 = -1 ∧ ¬ 0 < det3 p q r) := by
  rw [det3_or]
  rcases isgn_cases (det3 p q r).num with ⟨_, h⟩ | ⟨_, h⟩ | ⟨_, h⟩
  · exact .inr (.inr ⟨h, fun e => by rw [isg_pos.2 e] at h; cases h⟩)
  · exact .inr (.inl ⟨h, fun e => by rw [isg_pos.2 e] at h; cases h⟩)
  · exact .inl ⟨h, isg_pos.1 h⟩
instance : BoxT 4 := by constructor <;> decide
theorem gConvexC {w w0 : World} {a : Option Addr} {n c : Nat} {V : List FV} {L : List (Rat × Rat)} {k : Nat} {v : Bool} [hs : Sl w (.slice a n c) V.length (rowF V) w0] [hp : PsF w V L k] (hk : k ≤ 4900) (hV : V.length ≤ 1000) (h0 : 0 < V.length) (hv : Hid (CvxL L ↔ v = true)) :
    Calls Tryz.prog 109 #[.slice a n c] w (fun e w' => e = .returned (.bool v) ∧ Below w.heap.size w w') := by
  obtain rfl := hs.len; have hlen := Lib.hid hp.len; obtain ⟨g, rfl, hA0⟩ := hs.form h0
  have hA : At w g (rowF V) w := ⟨hA0.out, hA0.ltW, hA0.ltW⟩
  clear hA0 hs
  refine calls_marks Tryz.func109 rfl ?_
  simp only [Tryz.ntmps109, List.size_toArray, List.length_cons, List.length_nil, Nat.reduceAdd, Nat.reduceSub, Array.replicate_succ, Array.replicate_zero, List.push_toArray, List.append_toArray, List.nil_append, List.cons_append]
  go_wp2_with (first
    | (go_at_call 145; (with_reducible refine Calls.cEdges edgesC ?_); intro w1 _ br _))
  have hsz : w.heap.size ≤ w1.heap.size := (inferInstance : Kp w w1).out.size
  have ge1 : Ge w w1.heap.size := ⟨hsz⟩
  refine range_edges2 w (n := 5) (by omega) rfl (by omega) (V := V) (Br := br) (g := g) (c := c) rfl (fun T x b => (((T.setIfInBounds 9 (.int .i64 (x.val : Int))).setIfInBounds 10 (.agg (edL V x.val).toArray)).setIfInBounds 3 (.int .i64 (x.val : Int))).setIfInBounds 4 (.pointer (some ⟨b, 0, none⟩)))
    (fun pre W => Below w1.heap.size w1 W ∧ Hid (∀ i ∈ pre, EdgL L i.val)) (fun C _ W => C = .ret ∧ Below w.heap.size w W ∧ Bx W (w.heap.size + 1) 4 [.bool false] ∧ Hid (v = false)) (OwnFrom.and (ownFrom_below (Nat.le_refl _) (Nat.le_refl _)) (fun _ _ _ _ h _ _ => h)) ?own2 ⟨Below.refl _ _, Lib.hid (fun i hi => nomatch hi)⟩ ?assign (fun _ _ _ h k => ⟨blw_trans h.1 k.out, h.2⟩) (fun _ _ h => h.1.size) ?body ?done ?stop
  case own2 =>
    intro C
    rintro pre W W' row ⟨h1, h2, h3, h4⟩ hg hr
    have nc : Nc1 W W' := Nc1.of hg (fun r e => (hr r e).2)
    exact ⟨h1, ownFrom_below (Nat.le_refl _) hsz pre W W' row h2 hg hr, inferInstance, h4⟩
  case assign =>
    intro l pre x W K hI hK; simp only [encE, edL, List.zip_toArray, List.zip_cons_cons, List.zip_nil_right, List.foldl_toArray, List.foldl_cons, List.foldl_nil, List.setIfInBounds_toArray, List.set_cons_zero, List.set_cons_succ]; simp only [edL, List.setIfInBounds_toArray, List.set_cons_zero, List.set_cons_succ] at hK
    gi_wp2
    refine hK _ _ rfl ?_ ?_
    · infer_instance
    · exact Bx.re rfl
  case body =>
    rintro l pre x b W ⟨hI, hP⟩ hb hx hlt9
    have kw1 : Kp1 w1 W := ⟨hI⟩
    obtain ⟨m, hm0⟩ : ∃ m, (x.val + 1) % V.length = m := ⟨_, rfl⟩
    have hxl : x.val < V.length := x.isLt
    have lq : LtN x.val V.length := ⟨hxl⟩
    have hml : m < V.length := by rw [← hm0]; exact Nat.mod_lt _ (by omega)
    have lm : LtN m V.length := ⟨hml⟩
    have hfin : Hid (∀ i, (i ∈ pre ++ [x]) → (∀ k, k < V.length → k ≠ x.val → k ≠ m → 0 < det3 (pg L x.val) (pg L m) (pg L k)) → EdgL L i.val) := Lib.hid (fun i hi hk => by
      rcases List.mem_append.1 hi with h | h
      · exact hP.out i h
      · obtain rfl : i = x := by simpa using h
        intro k h1 h2 h3; rw [← hlen.out, hm0] at h3 ⊢
        exact hk k (by rw [hlen.out]; exact h1) h2 h3)
    have hno : Hid (∀ k, k < V.length → k ≠ x.val → k ≠ m → ¬ 0 < det3 (pg L x.val) (pg L m) (pg L k) → v = false) := Lib.hid (fun k h1 h2 h3 h4 => by
      cases v
      · rfl
      · exact absurd (hv.out.2 rfl x.val (by rw [← hlen.out]; exact hxl) k (by rw [← hlen.out]; exact h1) h2 (by rw [← hlen.out, hm0]; exact h3)) (by rw [← hlen.out, hm0]; exact h4))
    have ewx : IntKind.i64.wrap ((x.val : Int) + 1) = (x.val : Int) + 1 := wr_in (by omega) (by omega)
    have er : ((x.val : Int) + 1).tmod (V.length : Int) = (m : Int) := by
      rw [← hm0, show (x.val : Int) + 1 = ((x.val + 1 : Nat) : Int) by omega]; exact (Int.ofNat_tmod _ _).symm
    have hz : ¬ ((V.length : Int) = 0) := (by omega); have hz2 : ¬ (V.length = 0) := (by omega)
    dsimp only [edL] at hx ⊢
    rw [hm0] at hx ⊢; simp only [List.setIfInBounds_toArray, List.set_cons_zero, List.set_cons_succ]; clear hP hm0
    generalize hxv : x.val = j at *
    gi_wp2
    gi_loopw [13] (fun i wr => ∃ q : Nat, i = .int .i64 (q : Int) ∧ q ≤ V.length ∧ Hid (∀ k, k < q → k ≠ j → k ≠ m → 0 < det3 (pg L j) (pg L m) (pg L k)) ∧ Kp W wr) (fun i _ => V.length - (intOf i).toNat)
    case atStart => exact ⟨0, rfl, by omega, Lib.hid (fun k h => absurd h (by omega)), inferInstance⟩
    case round =>
      obtain ⟨q, rfl, hq, hQ, i2⟩ := hrel; have kr := Kp1.mk i2.out
      by_cases hlt : q < V.length
      · have hlt' : (q : Int) < V.length := by omega
        have lq2 : LtN q V.length := ⟨hlt⟩
        have ew : IntKind.i64.wrap ((q : Int) + 1) = (q : Int) + 1 := wr_in (by omega) (by omega)
        by_cases c1 : q = j
        · subst c1
          gi_wp2_with (first
            | (refine ⟨trivial, ?_⟩))
          go_roundw
          case rel => exact ⟨q + 1, by go_num, by omega, Lib.hid (fun k h h1 h2 => hQ.out k (by omega) h1 h2), inferInstance⟩
          case measure => simp [intOf]; omega
        · have c1' : ¬ ((q : Int) = (j : Int)) := by omega
          have c1b : ((q : Int) == (j : Int)) = false := beq_false_of_ne c1'
          have c1n : ((q : Int) != (j : Int)) = true := by rw [bne, c1b]; rfl
          by_cases c2 : q = m
          · subst c2
            gi_wp2_with (first
              | (refine ⟨trivial, ?_⟩))
            go_roundw
            case rel => exact ⟨q + 1, by go_num, by omega, Lib.hid (fun k h h1 h2 => hQ.out k (by omega) h1 h2), inferInstance⟩
            case measure => simp [intOf]; omega
          · have c2' : ¬ ((q : Int) = (m : Int)) := by omega
            have c2b : ((q : Int) == (m : Int)) = false := beq_false_of_ne c2'
            have c2n : ((q : Int) != (m : Int)) = true := by rw [bne, c2b]; rfl
            rcases orT3 (pg L j) (pg L m) (pg L q) with ⟨ho, hd⟩ | ⟨ho, hd⟩ | ⟨ho, hd⟩
            · have HO := Lib.hid ho; have HD := Lib.hid hd; clear ho hd
              gi_wp2_with (first
                | (refine ⟨trivial, ?_⟩; gi_at_call 110; (refine inR ?_); (with_reducible refine Calls.cE (orientV (by omega) HO) ?_); intros))
              all_goals
                go_roundw
                case rel => exact ⟨q + 1, by go_num, by omega, Lib.hid (fun k h h1 h2 => by
                  by_cases e : k = q
                  · rw [e]; exact HD.out
                  · exact hQ.out k (by omega) h1 h2), inferInstance⟩
                case measure => simp [intOf]; omega
            all_goals
              have HO := Lib.hid ho; have HD := Lib.hid (hno.out q hlt c1 c2 hd); clear ho hd
              gi_wp2_with (first
                | (refine ⟨trivial, ?_⟩; gi_at_call 110; (refine inR ?_); (with_reducible refine Calls.cE (orientV (by omega) HO) ?_); intros))
              all_goals exact ⟨(inferInstance : Keo W _).out.from _, rfl, (inferInstance : Kp w _).out, Bx.re rfl, HD⟩
      · obtain rfl : q = V.length := by omega
        gi_wp2
        exact ⟨(inferInstance : Keo W _).out.from _, ⟨(inferInstance : Keo W _).out.size, fun y => inferInstance, fun y => inferInstance⟩, (inferInstance : Kp w1 _).out, Lib.hid (fun i hi => hfin.out i hi hQ.out)⟩
  case done =>
    rintro D W hD ⟨hI, hP⟩ hK
    have kw1 : Kp1 w1 W := ⟨hI⟩
    have gd : Ge w D := ⟨Nat.le_trans hsz hD⟩
    have hv' : v = true := hv.out.1 (fun i hi k hk h1 h2 => hP.out ⟨i, by rw [hlen.out]; exact hi⟩ (List.mem_finRange _) k hk h1 h2)
    subst hv'
    go_wp2
    have hb1 := (inferInstance : LtN (w.heap.size + 1) w1.heap.size).out
    refine retM_mark (D := D) rfl (def_set hK (by omega)) ?_
    have kd : Dp1 (W.setCell ⟨w.heap.size + 1, 0, none⟩ (.bool true)) _ D := ⟨rfl, _, def_set hK (by omega)⟩
    refine ret_c rfl rfl (load_one (l := []) (t := 4) Tryz.underlying4 rfl) rfl ?_
    exact ⟨rfl, (inferInstance : Kp w _).out⟩
  case stop =>
    rintro D C pre W hD _ ⟨rfl, hI, hb, hv'⟩ hK
    have hv2 := hv'.out
    subst hv2
    have kw : Kp1 w W := ⟨hI⟩
    have gd : Ge w D := ⟨Nat.le_trans hsz hD⟩
    gi_wp2
    refine retM_mark (D := D) rfl hK ?_
    have kd : Dp1 W (W.putObj D (.deferred none)) D := ⟨rfl, _, hK⟩
    refine ret_c rfl rfl (load_one (l := []) (t := 4) Tryz.underlying4 rfl) rfl ?_
    exact ⟨rfl, (inferInstance : Kp w _).out⟩
theorem rConvexC {w w0 : World} {a : Option Addr} {n c : Nat} {V : List AV} {L : List (Rat × Rat)} {k : Nat} {v : Bool} [hs : Sl w (.slice a n c) V.length (rowA V) w0] [hp : PsA w V L k] (b : k ≤ 4800) (hV : V.length ≤ 1000) (hR : RingOK L) (hv : Hid (CvxL L ↔ v = true)) :
    Calls Tryz.prog 45 #[.slice a n c] w (fun e w' => e = .returned (.tuple #[.bool v, .nilIface]) ∧ Below w.heap.size w w') := by
  have hpos := hR.pos
  go_enter Tryz.func45, Tryz.ntmps45; go_wp2_with fail
  with_reducible refine Calls.cPsFEr (ringOfOk (by omega) (by omega) hR) ?_
  intro w1 _ a1 c1 V1 _ ip1
  have hV1 : V1.length ≤ 1000 := by rw [ip1.len, ← PsA.len (W := w) (V := V)]; exact hV
  have hV2 : 0 < V1.length := by rw [ip1.len]; exact hpos
  go_wp2_with (first
    | (go_at_call 109; (with_reducible refine Calls.cE (gConvexC (V := V1) (by omega) hV1 hV2 hv) ?_); intros))
  go_ret2
  first | exact E.fin rfl | exact ⟨rfl, (inferInstance : Kp w _).out⟩
end
section
theorem cvB_ex (L : List (Rat × Rat)) : ∃ v : Bool, CvxL L ↔ v = true := by
  by_cases h : CvxL L
  · exact ⟨true, fun _ => rfl, fun _ => h⟩
  · exact ⟨false, fun e => absurd e h, fun e => by cases e⟩
theorem refConvexC {w w0 : World} {a : Option Addr} {n c : Nat} {V : List AV} {L : List (Rat × Rat)} {k : Nat} {v : Bool} [hs : Sl w (.slice a n c) V.length (rowA V) w0] [hp : PsQ w V L k] (hk : k ≤ 1000) (hV : V.length ≤ 1000) (h0 : 0 < V.length) (hv : Hid (CvxL L ↔ v = true)) :
    Calls Tryz.prog 48 #[.slice a n c] w (fun e w' => e = .returned (.bool v) ∧ Below w.heap.size w w') := by
  obtain rfl := hs.len; have hlen := Lib.hid hp.len; obtain ⟨g, rfl, hA0⟩ := hs.form h0
  have hA : At w g (rowA V) w := ⟨hA0.out, hA0.ltW, hA0.ltW⟩
  clear hA0 hs
  have hno : Hid (∀ i k, i < V.length → k < V.length → k ≠ i → k ≠ (i + 1) % V.length → ¬ 0 < det3 (pg L i) (pg L ((i + 1) % V.length)) (pg L k) → v = false) := Lib.hid (fun i k hi hk h1 h2 hn => by
    cases v
    · rfl
    · rw [hlen.out] at hi hk h2 hn
      exact absurd (hv.out.2 rfl i hi k hk h1 h2) hn)
  go_enter Tryz.func48, Tryz.ntmps48; go_wp2_with fail
  go_loopw [10] (fun i wr => ∃ q : Nat, i = .int .i64 (q : Int) ∧ q ≤ V.length ∧ Hid (∀ i, i < q → EdgL L i) ∧ Kp w wr) (fun i _ => V.length - (intOf i).toNat)
  case atStart => exact ⟨0, rfl, by omega, Lib.hid (fun i h => absurd h (by omega)), inferInstance⟩
  case round =>
    obtain ⟨q, rfl, hq, hQ, i2⟩ := hrel; have kr := Kp1.mk i2.out
    by_cases hlt : q < V.length
    · have hlt' : (q : Int) < V.length := by omega
      have lq : LtN q V.length := ⟨hlt⟩
      have ew : IntKind.i64.wrap ((q : Int) + 1) = (q : Int) + 1 := wr_in (by omega) (by omega)
      obtain ⟨m, hm0⟩ : ∃ m, (q + 1) % V.length = m := ⟨_, rfl⟩
      have hm : m < V.length := by rw [← hm0]; exact Nat.mod_lt _ (by omega)
      have lm : LtN m V.length := ⟨hm⟩; have hm' : (m : Int) < V.length := (by omega)
      have er : ((q : Int) + 1).tmod (V.length : Int) = (m : Int) := by
        rw [← hm0, show (q : Int) + 1 = ((q + 1 : Nat) : Int) by omega]; exact (Int.ofNat_tmod _ _).symm
      have hz : ¬ ((V.length : Int) = 0) := (by omega); have hz2 : ¬ (V.length = 0) := (by omega); have HM := Lib.hid hm0; clear hm0; go_wp2_with fail
      go_loopw [15] (fun i wx => ∃ r : Nat, i = .int .i64 (r : Int) ∧ r ≤ V.length ∧ Hid (∀ k, k < r → k ≠ q → k ≠ m → 0 < det3 (pg L q) (pg L m) (pg L k)) ∧ Kp wr wx) (fun i _ => V.length - (intOf i).toNat)
      case atStart => exact ⟨0, rfl, by omega, Lib.hid (fun k h => absurd h (by omega)), inferInstance⟩
      case round =>
        obtain ⟨r, rfl, hr, hR, j2⟩ := hrel; have kx := Kp1.mk j2.out
        by_cases hlr : r < V.length
        · have hlr' : (r : Int) < V.length := by omega
          have lr : LtN r V.length := ⟨hlr⟩
          have ewr : IntKind.i64.wrap ((r : Int) + 1) = (r : Int) + 1 := wr_in (by omega) (by omega)
          by_cases c1 : r = q
          · subst c1; go_wp2_with fail; refine rgn [] [] fun hH => ?_; refine tk 0 hH ?_; refine tk 1 hH ?_; refine tk 2 hH ?_; refine tk 3 hH ?_; refine tkU 4 hH ?_; refine tkU 5 hH ?_; refine tkU 6 hH ?_; refine tkU 7 hH ?_; refine tkU 8 hH ?_; refine tkU 9 hH ?_; refine tk 10 hH ?_; refine tk 11 hH ?_; refine tkU 12 hH ?_; refine tkU 13 hH ?_; refine tkU 14 hH ?_; refine tkU 15 hH ?_; refine tkU 16 hH ?_; refine tkU 17 hH ?_; refine tkU 18 hH ?_; refine tkU 19 hH ?_; refine tkU 20 hH ?_; refine tkU 21 hH ?_; refine tkU 22 hH ?_; refine tkU 23 hH ?_; refine tkU 24 hH ?_; refine tkU 25 hH ?_; refine tkU 26 hH ?_; refine tkU 27 hH ?_; refine tkU 28 hH ?_; refine tk 29 hH ?_; refine dn ?_; clear hH; go_wp2
            go_roundw
            case rel => exact ⟨r + 1, by go_num, by omega, Lib.hid (fun k h h1 h2 => hR.out k (by omega) h1 h2), inferInstance⟩
            case measure => simp [intOf]; omega
          · have c1' : ¬ ((r : Int) = (q : Int)) := by omega
            have c1b : ((r : Int) == (q : Int)) = false := beq_false_of_ne c1'
            have c1n : ((r : Int) != (q : Int)) = true := by rw [bne, c1b]; rfl
            by_cases c2 : r = m
            · subst c2; go_wp2_with fail; refine rgn [] [] fun hH => ?_; refine tk 0 hH ?_; refine tk 1 hH ?_; refine tk 2 hH ?_; refine tk 3 hH ?_; refine tk 4 hH ?_; refine tk 5 hH ?_; refine tk 6 hH ?_; refine tk 7 hH ?_; refine tk 8 hH ?_; refine tk 9 hH ?_; refine tk 10 hH ?_; refine tk 11 hH ?_; refine tkU 12 hH ?_; refine tkU 13 hH ?_; refine tkU 14 hH ?_; refine tkU 15 hH ?_; refine tkU 16 hH ?_; refine tkU 17 hH ?_; refine tkU 18 hH ?_; refine tkU 19 hH ?_; refine tkU 20 hH ?_; refine tkU 21 hH ?_; refine tkU 22 hH ?_; refine tkU 23 hH ?_; refine tkU 24 hH ?_; refine tkU 25 hH ?_; refine tkU 26 hH ?_; refine tkU 27 hH ?_; refine tkU 28 hH ?_; refine tk 29 hH ?_; refine dn ?_; clear hH; go_wp2
              go_roundw
              case rel => exact ⟨r + 1, by go_num, by omega, Lib.hid (fun k h h1 h2 => hR.out k (by omega) h1 h2), inferInstance⟩
              case measure => simp [intOf]; omega
            · have c2' : ¬ ((r : Int) = (m : Int)) := by omega
              have c2b : ((r : Int) == (m : Int)) = false := beq_false_of_ne c2'
              have c2n : ((r : Int) != (m : Int)) = true := by rw [bne, c2b]; rfl
              rcases orT3 (pg L q) (pg L m) (pg L r) with ⟨ho, hd⟩ | ⟨ho, hd⟩ | ⟨ho, hd⟩
              · have HO := Lib.hid ho; have HD := Lib.hid hd; clear ho hd; go_wp2_with fail; refine rgn [] [] fun hH => ?_; refine tk 0 hH ?_; refine tk 1 hH ?_; refine tk 2 hH ?_; refine tk 3 hH ?_; refine tk 4 hH ?_; refine tk 5 hH ?_; refine tk 6 hH ?_; refine tk 7 hH ?_; refine tk 8 hH ?_; refine tk 9 hH ?_; refine tk 10 hH ?_; refine tk 11 hH ?_; refine tk 12 hH ?_; refine tk 13 hH ?_; refine tk 14 hH ?_; refine tk 15 hH ?_; refine tk 16 hH ?_; refine tk 17 hH ?_; refine tk 18 hH ?_; refine tk 19 hH ?_; refine tk 20 hH ?_; refine tk 21 hH ?_; refine tk 22 hH ?_; refine tk 23 hH ?_; refine tk 24 hH ?_; refine tk 25 hH ?_; refine tk 26 hH ?_; refine st 27 fun K hK => ?_; go_simp; (with_reducible refine Calls.cE (refOrientV (by omega) HO) ?_); intros; refine hd hK ?_; clear hH hK K; intro hH; refine tk 28 hH ?_; refine tk 29 hH ?_; refine dn ?_; clear hH; go_wp2
                go_roundw
                case rel => exact ⟨r + 1, by go_num, by omega, Lib.hid (fun k h h1 h2 => (by
                  by_cases e : k = r
                  · rw [e]; exact HD.out
                  · exact hR.out k (by omega) h1 h2)), inferInstance⟩
                case measure => simp [intOf]; omega
              all_goals
                have HO := Lib.hid ho
                have HD := Lib.hid (hno.out q r hlt hlr c1 (by rw [HM.out]; exact c2) (by rw [HM.out]; exact hd))
                clear ho hd; go_wp2_with fail; refine rgn [] [] fun hH => ?_; refine tk 0 hH ?_; refine tk 1 hH ?_; refine tk 2 hH ?_; refine tk 3 hH ?_; refine tk 4 hH ?_; refine tk 5 hH ?_; refine tk 6 hH ?_; refine tk 7 hH ?_; refine tk 8 hH ?_; refine tk 9 hH ?_; refine tk 10 hH ?_; refine tk 11 hH ?_; refine tk 12 hH ?_; refine tk 13 hH ?_; refine tk 14 hH ?_; refine tk 15 hH ?_; refine tk 16 hH ?_; refine tk 17 hH ?_; refine tk 18 hH ?_; refine tk 19 hH ?_; refine tk 20 hH ?_; refine tk 21 hH ?_; refine tk 22 hH ?_; refine tk 23 hH ?_; refine tk 24 hH ?_; refine tk 25 hH ?_; refine tk 26 hH ?_; refine st 27 fun K hK => ?_; go_simp; (with_reducible refine Calls.cE (refOrientV (by omega) HO) ?_); intros; refine hd hK ?_; clear hH hK K; intro hH; refine tk 28 hH ?_; refine tk 29 hH ?_; refine dn ?_; clear hH; go_wp2_with fail; go_ret
                exact ⟨by rw [HD.out]; rfl, (inferInstance : Kp w _).out⟩
        · obtain rfl : r = V.length := by omega
          go_wp2_with fail
          go_roundw
          case rel => exact ⟨q + 1, by go_num, by omega, Lib.hid (fun i hi => by
            by_cases e : i = q
            · subst e; intro k h1 h2 h3; rw [← hlen.out, HM.out] at h3 ⊢
              exact hR.out k (by rw [hlen.out]; exact h1) h2 h3
            · exact hQ.out i (by omega)), inferInstance⟩
          case measure => simp [intOf]; omega
    · obtain rfl : q = V.length := by omega
      have hv' : v = true := hv.out.1 (fun i hi => hQ.out i (by rw [hlen.out]; exact hi))
      subst hv'
      go_wp2_with fail; go_ret; exact ⟨rfl, (inferInstance : Kp w _).out⟩
theorem refConvexB {w : World} {g n : Nat} {V : List AV} {L : List (Rat × Rat)} {k : Nat} {v : Bool} [hb : Bx w g 47 (rowA V)] [hp : PsQ w V L k] (hn : n = V.length) (hk : k ≤ 1000) (hV : V.length ≤ 1000) (h0 : 0 < V.length) (hv : Hid (CvxL L ↔ v = true)) :
    Calls Tryz.prog 48 #[.slice (some ⟨g, 0, none⟩) n n] w (fun e w' => e = .returned (.bool v) ∧ Below w.heap.size w w') := by
  subst hn; exact refConvexC (V := V) (hs := Sl.ofBx hb (Nat.le_refl _)) hk hV h0 hv
theorem tapeConvexC {w : World} {t : Nat} [ht : Ct w t] : Calls Tryz.prog 43 #[.pointer (some ⟨t, 0, none⟩)] w (RingRet w t) := by
  go_enter Tryz.func43, Tryz.ntmps43; go_wp2_with fail
  with_reducible refine Calls.cNext (nextC (by omega)) ?_
  intro W0 _ _ v0 v01 v02
  by_cases h0 : v0 = 0
  · subst h0; go_wp2_with fail
    with_reducible refine Calls.cNext (nextC (by omega)) ?_
    intro W1 _ _ m m1 m2
    have e1 : IntKind.i64.wrap (m - 1) = m - 1 := by rw [IntKind.wrap_i64]; omega
    go_wp2_with fail
    with_reducible refine Calls.cNext (nextC (by omega)) ?_
    intro W2 _ _ n n1 n2
    have e2 : IntKind.i64.wrap (n - 1) = n - 1 := by rw [IntKind.wrap_i64]; omega
    obtain ⟨A, hA⟩ : ∃ A, m - 1 = A := ⟨_, rfl⟩; obtain ⟨B, hB⟩ : ∃ B, n - 1 = B := ⟨_, rfl⟩; rw [hA] at e1; rw [hB] at e2
    have e3 : IntKind.i64.wrap (A + 1) = A + 1 := wr_in (by omega) (by omega)
    have e4 : IntKind.i64.wrap (B + 1) = B + 1 := wr_in (by omega) (by omega)
    go_wp2_with fail
    with_reducible refine Calls.cNext (nextC (by omega)) ?_
    intro W3 _ _ x x1 x2
    have e5 : IntKind.i64.wrap (A + 1 + x) = A + 1 + x := wr_in (by omega) (by omega)
    go_wp2_with fail
    with_reducible refine Calls.cNext (nextC (by omega)) ?_
    intro W4 _ _ y y1 y2
    have e6 : IntKind.i64.wrap (B + 1 + y) = B + 1 + y := wr_in (by omega) (by omega)
    obtain ⟨C, hC⟩ : ∃ C, A + 1 + x = C := ⟨_, rfl⟩; obtain ⟨D, hD⟩ : ∃ D, B + 1 + y = D := ⟨_, rfl⟩
    have HH : Hid ((-4 ≤ A ∧ A ≤ 4) ∧ (-4 ≤ B ∧ B ≤ 4) ∧ (A < C ∧ C ≤ 4) ∧ (B < D ∧ D ≤ 4)) := Lib.hid (by omega)
    rw [hC] at e5; rw [hD] at e6
    have hH := HH.out
    clear hA hB; go_wp2_with fail
    with_reducible refine Calls.cPQ (refXyC (by omega)) ?_
    intro y1 _ gx1 ax1 lx1 cx1 aax1 llx1 ccx1 gy1 ay1 ly1 cy1 aay1 lly1 ccy1 _ _; go_wp2_with fail
    with_reducible refine Calls.cPQ (refXyC (by omega)) ?_
    intro y2 _ gx2 ax2 lx2 cx2 aax2 llx2 ccx2 gy2 ay2 ly2 cy2 aay2 lly2 ccy2 _ _; go_wp2_with fail
    with_reducible refine Calls.cPQ (refXyC (by omega)) ?_
    intro y3 _ gx3 ax3 lx3 cx3 aax3 llx3 ccx3 gy3 ay3 ly3 cy3 aay3 lly3 ccy3 _ _; go_wp2_with fail
    with_reducible refine Calls.cPQ (refXyC (by omega)) ?_
    intro y4 _ gx4 ax4 lx4 cx4 aax4 llx4 ccx4 gy4 ay4 ly4 cy4 aay4 lly4 ccy4 _ _; go_wp2_with fail; go_ret; exact RingRet.fin (V := [⟨gx1, ax1, lx1, cx1, aax1, llx1, ccx1, gy1, ay1, ly1, cy1, aay1, lly1, ccy1⟩, ⟨gx2, ax2, lx2, cx2, aax2, llx2, ccx2, gy2, ay2, ly2, cy2, aay2, lly2, ccy2⟩, ⟨gx3, ax3, lx3, cx3, aax3, llx3, ccx3, gy3, ay3, ly3, cy3, aay3, lly3, ccy3⟩, ⟨gx4, ax4, lx4, cx4, aax4, llx4, ccx4, gy4, ay4, ly4, cy4, aay4, lly4, ccy4⟩]) (L := [(((A : Int) : Rat), ((B : Int) : Rat)), (((C : Int) : Rat), ((B : Int) : Rat)), (((C : Int) : Rat), ((D : Int) : Rat)), (((A : Int) : Rat), ((D : Int) : Rat))]) (hs := Sl.ofBx (Bx.re rfl)) (hp := (PsQ.snoc (a := ⟨gx4, ax4, lx4, cx4, aax4, llx4, ccx4, gy4, ay4, ly4, cy4, aay4, lly4, ccy4⟩) (x := ((A : Int) : Rat)) (y := ((D : Int) : Rat)) (PsQ.snoc (a := ⟨gx3, ax3, lx3, cx3, aax3, llx3, ccx3, gy3, ay3, ly3, cy3, aay3, lly3, ccy3⟩) (x := ((C : Int) : Rat)) (y := ((D : Int) : Rat)) (PsQ.snoc (a := ⟨gx2, ax2, lx2, cx2, aax2, llx2, ccx2, gy2, ay2, ly2, cy2, aay2, lly2, ccy2⟩) (x := ((C : Int) : Rat)) (y := ((B : Int) : Rat)) (PsQ.snoc (a := ⟨gx1, ax1, lx1, cx1, aax1, llx1, ccx1, gy1, ay1, ly1, cy1, aay1, lly1, ccy1⟩) (x := ((A : Int) : Rat)) (y := ((B : Int) : Rat)) PsQ.nil inferInstance inferInstance (Nat.le_refl _) (Nat.le_refl _)) inferInstance inferInstance (Nat.le_refl _) (Nat.le_refl _)) inferInstance inferInstance (Nat.le_refl _) (Nat.le_refl _)) inferInstance inferInstance (Nat.le_refl _) (Nat.le_refl _))) ⟨ring4 (pne (by omega)) (pne (by omega)) (pne (by omega)) (pne (by omega)) (pne (by omega)), (IntL.snoc (IntL.snoc (IntL.snoc (IntL.snoc IntL.nil (by omega) (by omega)) (by omega) (by omega)) (by omega) (by omega)) (by omega) (by omega)), (by simp)⟩ Lo.new
  · have h0' : (v0 == 0) = false := beq_false_of_ne h0
    go_wp2_with fail
    with_reducible refine Calls.cNext (nextC (by omega)) ?_
    intro W1 _ _ m m1 m2
    have e1 : IntKind.i64.wrap (m - 1) = m - 1 := by rw [IntKind.wrap_i64]; omega
    obtain ⟨X, hX⟩ : ∃ A, m - 1 = A := ⟨_, rfl⟩; rw [hX] at e1; go_wp2_with fail
    with_reducible refine Calls.cNext (nextC (by omega)) ?_
    intro W2 _ _ n n1 n2
    have e2 : IntKind.i64.wrap (n - 1) = n - 1 := by rw [IntKind.wrap_i64]; omega
    obtain ⟨Y, hY⟩ : ∃ A, n - 1 = A := ⟨_, rfl⟩; rw [hY] at e2; go_wp2_with fail
    with_reducible refine Calls.cPQ (refXyC (by omega)) ?_
    intro z1 _ pgx pax plx pcx paax pllx pccx pgy pay ply pcy paay plly pccy _ _; go_wp2_with fail
    with_reducible refine Calls.cNext (nextC (by omega)) ?_
    intro W3 _ _ x x1 x2
    have e3 : IntKind.i64.wrap (1 + x) = 1 + x := wr_in (by omega) (by omega)
    obtain ⟨U, hU⟩ : ∃ A, 1 + x = A := ⟨_, rfl⟩; rw [hU] at e3; go_wp2_with fail
    with_reducible refine Calls.cNext (nextC (by omega)) ?_
    intro W4 _ _ y y1 y2
    have e4 : IntKind.i64.wrap (y - 1) = y - 1 := by rw [IntKind.wrap_i64]; omega
    obtain ⟨R, hR⟩ : ∃ A, y - 1 = A := ⟨_, rfl⟩; rw [hR] at e4; go_wp2_with fail
    with_reducible refine Calls.cPQ (refXyC (by omega)) ?_
    intro z2 _ u1 u2 u3 u4 u5 u6 u7 u8 u9 u10 u11 u12 u13 u14 _ _; go_wp2_with fail
    with_reducible refine Calls.cNext (nextC (by omega)) ?_
    intro W5 _ _ s s1 s2
    have e5 : IntKind.i64.wrap (s - 1) = s - 1 := by rw [IntKind.wrap_i64]; omega
    obtain ⟨S, hS⟩ : ∃ A, s - 1 = A := ⟨_, rfl⟩; rw [hS] at e5; go_wp2_with fail
    with_reducible refine Calls.cNext (nextC (by omega)) ?_
    intro W6 _ _ d d1 d2
    have e6 : IntKind.i64.wrap (1 + d) = 1 + d := wr_in (by omega) (by omega)
    obtain ⟨Q, hQ⟩ : ∃ A, 1 + d = A := ⟨_, rfl⟩; rw [hQ] at e6; go_wp2_with fail
    with_reducible refine Calls.cPQ (refXyC (by omega)) ?_
    intro z3 _ v1 v2 v3 v4 v5 v6 v7 v8 v9 v10 v11 v12 v13 v14 _ _
    have HH : Hid ((-1 ≤ X ∧ X ≤ 1) ∧ (-1 ≤ Y ∧ Y ≤ 1) ∧ (1 ≤ U ∧ U ≤ 2) ∧ (-1 ≤ R ∧ R ≤ 1) ∧ (-1 ≤ S ∧ S ≤ 1) ∧ (1 ≤ Q ∧ Q ≤ 2)) := Lib.hid (by omega)
    clear hX hY hU hR hS hQ
    go_upto_region 7 with fail
    refine rgn [] [] fun hH => ?_; refine tk 0 hH ?_; refine tk 1 hH ?_; refine tk 3 hH ?_; refine tk 5 hH ?_; refine tk 7 hH ?_; refine st 2 fun K hK => ?_; go_simp; (with_reducible refine Calls.cQ (numOfC (by omega)) ?_); intros; refine hd hK ?_; clear hH hK K; intro hH; refine st 4 fun K hK => ?_; go_simp; (with_reducible refine Calls.cPQ (refPAddC (by omega)) ?_); intro y1 _ gx1 ax1 lx1 cx1 aax1 llx1 ccx1 gy1 ay1 ly1 cy1 aay1 lly1 ccy1 _ _; refine hd hK ?_; clear hH hK K; intro hH; refine st 6 fun K hK => ?_; go_simp; (with_reducible refine Calls.cQ (numOfC (by omega)) ?_); intros; refine hd hK ?_; clear hH hK K; intro hH; refine st 8 fun K hK => ?_; go_simp; (with_reducible refine Calls.cPQ (refPAddC (by omega)) ?_); intro y2 _ gx2 ax2 lx2 cx2 aax2 llx2 ccx2 gy2 ay2 ly2 cy2 aay2 lly2 ccy2 _ _; refine hd hK ?_; clear hH hK K; intro hH; refine st 9 fun K hK => ?_; go_simp; refine hd hK ?_; clear hH hK K; intro hH; refine tk 10 hH ?_; refine dn ?_; clear hH
    have hH := HH.out
    obtain ⟨cv, hcv⟩ := cvB_ex [(((X : Int) : Rat), ((Y : Int) : Rat)), (((X + U : Int) : Rat), ((Y + R : Int) : Rat)), (((X + S : Int) : Rat), ((Y + Q : Int) : Rat))]; have HCV := Lib.hid hcv; clear hcv; go_wp2_with fail
    with_reducible refine Calls.cE (refConvexB (V := [⟨pgx, pax, plx, pcx, paax, pllx, pccx, pgy, pay, ply, pcy, paay, plly, pccy⟩, ⟨gx1, ax1, lx1, cx1, aax1, llx1, ccx1, gy1, ay1, ly1, cy1, aay1, lly1, ccy1⟩, ⟨gx2, ax2, lx2, cx2, aax2, llx2, ccx2, gy2, ay2, ly2, cy2, aay2, lly2, ccy2⟩]) (L := [(((X : Int) : Rat), ((Y : Int) : Rat)), (((X + U : Int) : Rat), ((Y + R : Int) : Rat)), (((X + S : Int) : Rat), ((Y + Q : Int) : Rat))]) (k := 4) (hb := ?hs) (hp := ?hp) rfl (by omega) (by simp) (by simp) HCV) ?_
    case hs => exact Bx.re rfl
    case hp => exact (PsQ.snoc (a := ⟨gx2, ax2, lx2, cx2, aax2, llx2, ccx2, gy2, ay2, ly2, cy2, aay2, lly2, ccy2⟩) (x := ((X + S : Int) : Rat)) (y := ((Y + Q : Int) : Rat)) (PsQ.snoc (a := ⟨gx1, ax1, lx1, cx1, aax1, llx1, ccx1, gy1, ay1, ly1, cy1, aay1, lly1, ccy1⟩) (x := ((X + U : Int) : Rat)) (y := ((Y + R : Int) : Rat)) (PsQ.snoc (a := ⟨pgx, pax, plx, pcx, paax, pllx, pccx, pgy, pay, ply, pcy, paay, plly, pccy⟩) (x := ((X : Int) : Rat)) (y := ((Y : Int) : Rat)) PsQ.nil inferInstance inferInstance (Nat.le_refl _) (Nat.le_refl _)) (CQ.small (CQ.cast inferInstance (one_mul_add _ _) (Nat.le_refl _)) (by omega)) (CQ.small (CQ.cast inferInstance (one_mul_add _ _) (Nat.le_refl _)) (by omega)) (Nat.le_refl _) (Nat.le_refl _)) (CQ.small (CQ.cast inferInstance (one_mul_add _ _) (Nat.le_refl _)) (by omega)) (CQ.small (CQ.cast inferInstance (one_mul_add _ _) (Nat.le_refl _)) (by omega)) (Nat.le_refl _) (Nat.le_refl _))
    intro wz _
    cases cv
    · go_wp2_with fail; go_wp2_with fail
      with_reducible refine Calls.cPQ (refXyC (by omega)) ?_
      intro y1 _ gx1 ax1 lx1 cx1 aax1 llx1 ccx1 gy1 ay1 ly1 cy1 aay1 lly1 ccy1 _ _; go_wp2_with fail
      with_reducible refine Calls.cPQ (refXyC (by omega)) ?_
      intro y2 _ gx2 ax2 lx2 cx2 aax2 llx2 ccx2 gy2 ay2 ly2 cy2 aay2 lly2 ccy2 _ _; go_wp2_with fail
      with_reducible refine Calls.cPQ (refXyC (by omega)) ?_
      intro y3 _ gx3 ax3 lx3 cx3 aax3 llx3 ccx3 gy3 ay3 ly3 cy3 aay3 lly3 ccy3 _ _; go_wp2_with fail; go_ret; exact RingRet.fin (V := [⟨gx1, ax1, lx1, cx1, aax1, llx1, ccx1, gy1, ay1, ly1, cy1, aay1, lly1, ccy1⟩, ⟨gx2, ax2, lx2, cx2, aax2, llx2, ccx2, gy2, ay2, ly2, cy2, aay2, lly2, ccy2⟩, ⟨gx3, ax3, lx3, cx3, aax3, llx3, ccx3, gy3, ay3, ly3, cy3, aay3, lly3, ccy3⟩]) (L := [(((0 : Int) : Rat), ((0 : Int) : Rat)), (((1 : Int) : Rat), ((0 : Int) : Rat)), (((0 : Int) : Rat), ((1 : Int) : Rat))]) (hs := Sl.ofBx (Bx.re rfl)) (hp := (PsQ.snoc (a := ⟨gx3, ax3, lx3, cx3, aax3, llx3, ccx3, gy3, ay3, ly3, cy3, aay3, lly3, ccy3⟩) (x := ((0 : Int) : Rat)) (y := ((1 : Int) : Rat)) (PsQ.snoc (a := ⟨gx2, ax2, lx2, cx2, aax2, llx2, ccx2, gy2, ay2, ly2, cy2, aay2, lly2, ccy2⟩) (x := ((1 : Int) : Rat)) (y := ((0 : Int) : Rat)) (PsQ.snoc (a := ⟨gx1, ax1, lx1, cx1, aax1, llx1, ccx1, gy1, ay1, ly1, cy1, aay1, lly1, ccy1⟩) (x := ((0 : Int) : Rat)) (y := ((0 : Int) : Rat)) PsQ.nil inferInstance inferInstance (Nat.le_refl _) (Nat.le_refl _)) inferInstance inferInstance (Nat.le_refl _) (Nat.le_refl _)) inferInstance inferInstance (Nat.le_refl _) (Nat.le_refl _))) ⟨ring3 (pne (by omega)) (pne (by omega)) (pne (by omega)), (IntL.snoc (IntL.snoc (IntL.snoc IntL.nil (by omega) (by omega)) (by omega) (by omega)) (by omega) (by omega)), (by simp)⟩ Lo.new
    · go_wp2_with fail
      have hc : CvxL [(((X : Int) : Rat), ((Y : Int) : Rat)), (((X + U : Int) : Rat), ((Y + R : Int) : Rat)), (((X + S : Int) : Rat), ((Y + Q : Int) : Rat))] := by first | exact HCV.out.2 rfl | exact HCV.out.2 trivial
      have h3 := hc 0 (by simp) 2 (by simp) (by decide) (by simp)
      have h3p : 0 < det3 ((X : Rat), (Y : Rat)) (((X + U : Int) : Rat), ((Y + R : Int) : Rat)) (((X + S : Int) : Rat), ((Y + Q : Int) : Rat)) := h3
      have hne : ¬ (U = S ∧ R = Q) := by
        rintro ⟨rfl, rfl⟩
        unfold det3 at h3p
        grind
      go_ret; exact RingRet.fin (V := [⟨pgx, pax, plx, pcx, paax, pllx, pccx, pgy, pay, ply, pcy, paay, plly, pccy⟩, ⟨gx1, ax1, lx1, cx1, aax1, llx1, ccx1, gy1, ay1, ly1, cy1, aay1, lly1, ccy1⟩, ⟨gx2, ax2, lx2, cx2, aax2, llx2, ccx2, gy2, ay2, ly2, cy2, aay2, lly2, ccy2⟩]) (L := [(((X : Int) : Rat), ((Y : Int) : Rat)), (((X + U : Int) : Rat), ((Y + R : Int) : Rat)), (((X + S : Int) : Rat), ((Y + Q : Int) : Rat))]) (hs := Sl.ofBx (Bx.re rfl)) (hp := (PsQ.snoc (a := ⟨gx2, ax2, lx2, cx2, aax2, llx2, ccx2, gy2, ay2, ly2, cy2, aay2, lly2, ccy2⟩) (x := ((X + S : Int) : Rat)) (y := ((Y + Q : Int) : Rat)) (PsQ.snoc (a := ⟨gx1, ax1, lx1, cx1, aax1, llx1, ccx1, gy1, ay1, ly1, cy1, aay1, lly1, ccy1⟩) (x := ((X + U : Int) : Rat)) (y := ((Y + R : Int) : Rat)) (PsQ.snoc (a := ⟨pgx, pax, plx, pcx, paax, pllx, pccx, pgy, pay, ply, pcy, paay, plly, pccy⟩) (x := ((X : Int) : Rat)) (y := ((Y : Int) : Rat)) PsQ.nil inferInstance inferInstance (Nat.le_refl _) (Nat.le_refl _)) (CQ.small (CQ.cast inferInstance (one_mul_add _ _) (Nat.le_refl _)) (by omega)) (CQ.small (CQ.cast inferInstance (one_mul_add _ _) (Nat.le_refl _)) (by omega)) (Nat.le_refl _) (Nat.le_refl _)) (CQ.small (CQ.cast inferInstance (one_mul_add _ _) (Nat.le_refl _)) (by omega)) (CQ.small (CQ.cast inferInstance (one_mul_add _ _) (Nat.le_refl _)) (by omega)) (Nat.le_refl _) (Nat.le_refl _))) ⟨ring3 (pne (by omega)) (pne (by omega)) (pne (by omega)), (IntL.snoc (IntL.snoc (IntL.snoc IntL.nil (by omega) (by omega)) (by omega) (by omega)) (by omega) (by omega)), (by simp)⟩ Lo.new
end
end Go.Proofs.YtdlnoeegboapkaaGreatDoor
