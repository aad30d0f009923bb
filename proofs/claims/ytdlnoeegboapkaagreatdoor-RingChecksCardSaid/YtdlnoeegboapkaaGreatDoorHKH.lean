/-
  Texts of this claim, joined: Open, Opr, Rc8.
-/
import Derived.Test.YtdlnoeegboapkaaGreatDoorCE
import Derived.OpenShut
import Derived.ProofKit
import Derived.ChangeSame
import Derived.Test.YtdlnoeegboapkaaGreatDoorCL
import Derived.Deep.Slices
import Derived.Test.YtdlnoeegboapkaaGreatDoorHKB
/- What a struct that came in as an argument of a law looks like: integers, rational numbers, points, lines of package api by value. -/
namespace Go.Proofs.YtdlnoeegboapkaaGreatDoor
open Go.RowKit Go.ChangeShapes Go.WideShapes

theorem len2 {α : Type} {l : List α} (h : l.length = 2) : ∃ a b, l = [a, b] := match l, h with | [a, b], _ => ⟨a, b, rfl⟩
theorem len3 {α : Type} {l : List α} (h : l.length = 3) : ∃ a b c, l = [a, b, c] := match l, h with | [a, b, c], _ => ⟨a, b, c, rfl⟩
theorem len6 {α : Type} {l : List α} (h : l.length = 6) : ∃ a b c d e f, l = [a, b, c, d, e, f] := match l, h with | [a, b, c, d, e, f], _ => ⟨a, b, c, d, e, f, rfl⟩
set_option maxRecDepth 100000
section
variable {H : Type} {enc : TypeId × Value → H} {W : World}
theorem tr_nat {fuel : Nat} {cs : List Value} {x : DataW H × List MemPlace} (h : DataW.trod enc Tryz.prog W 0 (fun _ => true) true fuel 25 cs = some x) : ∃ a l c zs, cs = [.slice a l c] ∧ IsRow .u32 W a l c zs := by
  rcases open_ints Tryz.underlying25 Tryz.underlying106 (by kernel_rfl) h with ⟨hcs, _⟩ | ⟨x, l, c, zs, hcs, _, hl, hm, hz, _, hcell, hwz⟩
  · exact ⟨none, 0, 0, [], hcs, .inl ⟨rfl, rfl, rfl, rfl⟩⟩
  · exact ⟨some x, l, c, zs, hcs, .inr ⟨x, rfl, hl, hm, by simpa using hz, hcell, hwz⟩⟩
theorem cells_int : Tryz.prog.cellsOf 27 = 2 := by kernel_rfl
theorem cells_rat : Tryz.prog.cellsOf 29 = 3 := by kernel_rfl
theorem cells_point : Tryz.prog.cellsOf 31 = 6 := by kernel_rfl
theorem cells_line : Tryz.prog.cellsOf 156 = 6 := by kernel_rfl
theorem cells_bool : Tryz.prog.cellsOf 4 = 1 := by kernel_rfl
theorem cells_nat : Tryz.prog.cellsOf 25 = 1 := by kernel_rfl
theorem tr_int {fuel : Nat} {cs : List Value} {x : DataW H × List MemPlace} (h : DataW.trod enc Tryz.prog W 0 (fun _ => true) true fuel 27 cs = some x) : ∃ g a l c zs, cs = [.bool g, .slice a l c] ∧ IsRow .u32 W a l c zs := by
  obtain ⟨y0, y1, n, _, hl, h0, h1⟩ := trod_struct2 Tryz.underlying27 h
  have hl2 := hl.trans cells_int
  obtain ⟨c0, c1, rfl⟩ := len2 hl2
  dsimp only at h0 h1
  rw [cells_bool] at h0
  rw [cells_nat] at h1
  obtain ⟨g, e0, _⟩ := DataW.trod_bool Tryz.underlying4 h0
  obtain ⟨a, l, c, zs, e1, w1⟩ := tr_nat h1
  simp at e0 e1
  subst e0; subst e1
  exact ⟨g, a, l, c, zs, rfl, w1⟩
theorem op_int {v : Value} {d : DataW H} {p : List MemPlace} {b0 : Nat} (hv : Value.okWide Tryz.prog W .any b0 27 v) (h : DataW.Trod enc Tryz.prog W 0 (fun _ => true) true 27 v d p) :
    ∃ g a l c zs, v = .agg #[.bool g, .slice a l c] ∧ IsRow .u32 W a l c zs := by
  obtain ⟨⟨cs⟩, rfl, hsz⟩ := okWide_struct Tryz.underlying27 hv
  obtain ⟨fuel, hf⟩ := h
  obtain ⟨g, a, l, c, zs, e, w1⟩ := tr_int (cs := cs) hf
  subst e
  exact ⟨g, a, l, c, zs, rfl, w1⟩
theorem tr_rat {fuel : Nat} {cs : List Value} {x : DataW H × List MemPlace} (h : DataW.trod enc Tryz.prog W 0 (fun _ => true) true fuel 29 cs = some x) : ∃ g a l c zs aa ll cc zz, cs = [.bool g, .slice a l c, .slice aa ll cc] ∧ IsRow .u32 W a l c zs ∧ IsRow .u32 W aa ll cc zz := by
  obtain ⟨y0, y1, n, _, hl, h0, h1⟩ := trod_struct2 Tryz.underlying29 h
  have hl2 := hl.trans cells_rat
  obtain ⟨c0, c1, c2, rfl⟩ := len3 hl2
  dsimp only at h0 h1
  rw [cells_int] at h0
  rw [cells_nat] at h1
  obtain ⟨g, a, l, c, zs, e0, w0⟩ := tr_int h0
  obtain ⟨aa, ll, cc, zz, e1, w1⟩ := tr_nat h1
  simp at e0 e1
  obtain ⟨rfl, rfl⟩ := e0
  subst e1
  exact ⟨g, a, l, c, zs, aa, ll, cc, zz, rfl, w0, w1⟩
theorem op_rat {v : Value} {d : DataW H} {p : List MemPlace} {b0 : Nat} (hv : Value.okWide Tryz.prog W .any b0 29 v) (h : DataW.Trod enc Tryz.prog W 0 (fun _ => true) true 29 v d p) :
    ∃ g a l c zs aa ll cc zz, v = .agg #[.bool g, .slice a l c, .slice aa ll cc] ∧ IsRow .u32 W a l c zs ∧ IsRow .u32 W aa ll cc zz := by
  obtain ⟨⟨cs⟩, rfl, hsz⟩ := okWide_struct Tryz.underlying29 hv
  obtain ⟨fuel, hf⟩ := h
  obtain ⟨g, a, l, c, zs, aa, ll, cc, zz, e, w1, w2⟩ := tr_rat (cs := cs) hf
  subst e
  exact ⟨g, a, l, c, zs, aa, ll, cc, zz, rfl, w1, w2⟩
theorem op_point {v : Value} {d : DataW H} {p : List MemPlace} {b0 : Nat} (hv : Value.okWide Tryz.prog W .any b0 31 v) (h : DataW.Trod enc Tryz.prog W 0 (fun _ => true) true 31 v d p) :
    ∃ g a l c zs aa ll cc zz g' a' l' c' zs' aa' ll' cc' zz', v = .agg #[.bool g, .slice a l c, .slice aa ll cc, .bool g', .slice a' l' c', .slice aa' ll' cc'] ∧ IsRow .u32 W a l c zs ∧ IsRow .u32 W aa ll cc zz ∧ IsRow .u32 W a' l' c' zs' ∧ IsRow .u32 W aa' ll' cc' zz' := by
  obtain ⟨⟨cs⟩, rfl, hsz⟩ := okWide_struct Tryz.underlying31 hv
  obtain ⟨fuel, hf⟩ := h
  obtain ⟨y0, y1, n, _, hl, h0, h1⟩ := trod_struct2 (cs := cs) Tryz.underlying31 hf
  have hl2 := hl.trans cells_point
  obtain ⟨c0, c1, c2, c3, c4, c5, rfl⟩ := len6 hl2
  dsimp only at h0 h1
  rw [cells_rat] at h0 h1
  obtain ⟨g, a, l, c, zs, aa, ll, cc, zz, e0, w0, w1⟩ := tr_rat h0
  obtain ⟨g', a', l', c', zs', aa', ll', cc', zz', e1, w0', w1'⟩ := tr_rat h1
  simp at e0 e1
  obtain ⟨rfl, rfl, rfl⟩ := e0
  obtain ⟨rfl, rfl, rfl⟩ := e1
  exact ⟨g, a, l, c, zs, aa, ll, cc, zz, g', a', l', c', zs', aa', ll', cc', zz', rfl, w0, w1, w0', w1'⟩
end
end Go.Proofs.YtdlnoeegboapkaaGreatDoor

/- What a ring that came in as an argument of a law looks like: any slice of points by value. -/
namespace Go.Proofs.YtdlnoeegboapkaaGreatDoor
open Go.RowKit Go.ChangeShapes Go.WideShapes Go.Deep
set_option maxRecDepth 100000

/-- The digits of a point's four numbers. -/
structure RawE (W : World) (e : AV) : Prop where
  x : ∃ zs, IsRow .u32 W e.ax e.lx e.cx zs
  xx : ∃ zs, IsRow .u32 W e.aax e.llx e.ccx zs
  y : ∃ zs, IsRow .u32 W e.ay e.ly e.cy zs
  yy : ∃ zs, IsRow .u32 W e.aay e.lly e.ccy zs
/-- A slice of points that came in. -/
structure RawR (W : World) (a : Option Addr) (n c : Nat) (V : List AV) : Prop where
  len : V.length = n
  cap : n ≤ c ∧ c ≤ maxLen
  at' : 0 < n → ∃ b off, a = some ⟨b, off, none⟩ ∧ ∀ i, i < n → ∀ j (hj : j < 6), W.cell? ⟨b, off + (i * 6 + j), none⟩ = some ((av V i).l[j]'hj)
  dig : ∀ i, i < n → RawE W (av V i)
section
variable {H : Type} {enc : TypeId × Value → H} {W : World}
theorem tr_point {fuel : Nat} {cs : List Value} {x : DataW H × List MemPlace} (h : DataW.trod enc Tryz.prog W 0 (fun _ => true) true fuel 31 cs = some x) : ∃ e : AV, cs = e.l ∧ RawE W e := by
  obtain ⟨y0, y1, n, _, hl, h0, h1⟩ := trod_struct2 (cs := cs) Tryz.underlying31 h
  have hl2 := hl.trans cells_point
  obtain ⟨c0, c1, c2, c3, c4, c5, rfl⟩ := len6 hl2
  dsimp only at h0 h1
  rw [cells_rat] at h0 h1
  obtain ⟨g, a, l, c, zs, aa, ll, cc, zz, e0, w0, w1⟩ := tr_rat h0
  obtain ⟨g', a', l', c', zs', aa', ll', cc', zz', e1, w0', w1'⟩ := tr_rat h1
  simp at e0 e1
  obtain ⟨rfl, rfl, rfl⟩ := e0
  obtain ⟨rfl, rfl, rfl⟩ := e1
  exact ⟨⟨g, a, l, c, aa, ll, cc, g', a', l', c', aa', ll', cc'⟩, rfl, ⟨⟨_, w0⟩, ⟨_, w1⟩, ⟨_, w0'⟩, ⟨_, w1'⟩⟩⟩
theorem op_ring {v : Value} {d : DataW H} {p : List MemPlace} {b0 : Nat} (hv : Value.okWide Tryz.prog W .any b0 56 v) (h : DataW.Trod enc Tryz.prog W 0 (fun _ => true) true 56 v d p) :
    ∃ a n c V, v = .slice a n c ∧ RawR W a n c V := by
  obtain ⟨a, n, c, rfl⟩ := okWide_slice Tryz.underlying56 hv
  obtain ⟨fuel, hf⟩ := h
  rcases open_slice Tryz.underlying56 hf with ⟨hcs, _⟩ | ⟨x, l, cp, m, k, D, Pl, hcs, _, hl, hm, hmm, _, hel⟩
  · simp [Value.cells] at hcs
    obtain ⟨rfl, rfl, rfl⟩ := hcs
    exact ⟨none, 0, 0, [], rfl, rfl, ⟨Nat.le_refl _, Nat.zero_le _⟩, fun h => absurd h (by omega), fun i h => absurd h (by omega)⟩
  · simp [Value.cells] at hcs
    obtain ⟨rfl, rfl, rfl⟩ := hcs
    rw [cells_point] at hel
    have hmn : n ≤ m := by rw [hmm, if_pos rfl]; exact hl
    have hx : ∀ i, i < n → ∃ e : AV, (∀ j (hj : j < 6), W.cell? ((x.add (i * 6)).add j) = some (e.l[j]'hj)) ∧ RawE W e := fun i hi => by
      obtain ⟨cs', h1, h2⟩ := hel i (by omega)
      obtain ⟨e, rfl, h3⟩ := tr_point h2
      refine ⟨e, fun j hj => ?_, h3⟩
      have h4 := (World.cells?_some h1).2.2 j hj
      rw [h4, List.getElem?_eq_getElem (l := e.l) hj]
    have hV : ∃ V : List AV, V.length = n ∧ ∀ i, i < n → (∀ j (hj : j < 6), W.cell? ((x.add (i * 6)).add j) = some ((av V i).l[j]'hj)) ∧ RawE W (av V i) := by
      refine ⟨(List.finRange n).map fun i => Classical.choose (hx i.val i.isLt), by simp, fun i hi => ?_⟩
      have e : av ((List.finRange n).map fun i => Classical.choose (hx i.val i.isLt)) i = Classical.choose (hx i hi) := by
        rw [av_get (by simpa using hi)]; simp
      rw [e]
      exact Classical.choose_spec (hx i hi)
    obtain ⟨V, hVl, hV⟩ := hV
    refine ⟨_, n, c, V, rfl, hVl, ⟨hl, hm⟩, fun h0 => ?_, fun i hi => (hV i hi).2⟩
    obtain ⟨b, off, spot⟩ := x
    have hspot : spot = none := by
      have := (hV 0 h0).1 0 (by decide)
      simpa [Addr.add] using World.cell?_spot this
    subst hspot
    refine ⟨b, off, rfl, fun i hi j hj => ?_⟩
    have h5 := (hV i hi).1 j hj
    rw [add_add] at h5
    unfold Addr.add at h5
    split at h5
    · next hz => rw [hz]; exact h5
    · exact h5
end
end Go.Proofs.YtdlnoeegboapkaaGreatDoor

/- A ring that came in, as the walks read it. printed by a small program (mkrc8.py). -/
namespace Go.Proofs.YtdlnoeegboapkaaGreatDoor
open Go.RowKit
set_option maxRecDepth 100000
set_option maxHeartbeats 40000000
set_option synthInstance.maxSize 100000
set_option synthInstance.maxHeartbeats 1000000
set_option linter.unusedVariables false

theorem cell_lt {W : World} {a : Addr} {v : Value} (h : W.cell? a = some v) : a.block < W.heap.size := by
  unfold World.cell? at h
  rcases Nat.lt_or_ge a.block W.heap.size with hl | hg
  · exact hl
  · rw [Array.getElem?_eq_none hg] at h; simp at h
theorem RawR.sl {W : World} {a : Option Addr} {n c : Nat} {V : List AV} (h : RawR W a n c V) : SlO W (.slice a n c) V.length (rowA V) W := by
  obtain rfl := h.len
  have hlt : 0 < V.length → ∀ g, (Value.slice a V.length c).ownBlock = some g → g < W.heap.size := fun h0 g e => by
    obtain ⟨b, off, rfl, hc⟩ := h.at' h0
    cases e
    exact cell_lt (hc 0 h0 0 (by decide))
  refine ⟨?_, hlt, hlt⟩
  rcases Nat.eq_zero_or_pos V.length with h0 | h0
  · exact .inl ⟨h0, _, _, by rw [h0]⟩
  · obtain ⟨b, off, rfl, hc⟩ := h.at' h0
    refine .inr ⟨b, off, c, rfl, h.cap.1, fun j u hu => ?_⟩
    have hj : j < V.length * 6 := by
      have := (List.getElem?_eq_some_iff.1 hu).1
      rw [rowA, flat_len AV.len] at this
      exact this
    have h1 : j / 6 < V.length := by omega
    have h2 : j % 6 < 6 := Nat.mod_lt _ (by decide)
    have h3 := flat_get AV.len V (j / 6) (j % 6) h1 h2
    rw [show j / 6 * 6 + j % 6 = j by omega] at h3
    rw [rowA, h3] at hu
    have h4 := hc (j / 6) h1 (j % 6) h2
    rw [show j / 6 * 6 + j % 6 = j by omega] at h4
    rw [h4, av_get h1]
    rw [List.getElem?_eq_getElem (l := V[j / 6].l) h2] at hu
    exact hu
theorem RawR.psl {W : World} {a : Option Addr} {n c : Nat} {V : List AV} (h : RawR W a n c V) : ∃ D, PsL W V D := by
  obtain rfl := h.len
  have hx : ∀ i, ∃ d : RD, i < V.length → RL W (.slice (av V i).ax (av V i).lx (av V i).cx) d.x ∧ RL W (.slice (av V i).aax (av V i).llx (av V i).ccx) d.xx ∧ RL W (.slice (av V i).ay (av V i).ly (av V i).cy) d.y ∧ RL W (.slice (av V i).aay (av V i).lly (av V i).ccy) d.yy := fun i => by
    by_cases hi : i < V.length
    · obtain ⟨⟨_, h1⟩, ⟨_, h2⟩, ⟨_, h3⟩, ⟨_, h4⟩⟩ := h.dig i hi
      obtain ⟨l1, _, r1⟩ := rl_row h1
      obtain ⟨l2, _, r2⟩ := rl_row h2
      obtain ⟨l3, _, r3⟩ := rl_row h3
      obtain ⟨l4, _, r4⟩ := rl_row h4
      exact ⟨⟨l1, l2, l3, l4⟩, fun _ => ⟨r1, r2, r3, r4⟩⟩
    · exact ⟨⟨[], [], [], []⟩, fun h => absurd h hi⟩
  refine ⟨fun i => Classical.choose (hx i), fun i hi => (Classical.choose_spec (hx i) hi).1, fun i hi => (Classical.choose_spec (hx i) hi).2.1, fun i hi => (Classical.choose_spec (hx i) hi).2.2.1, fun i hi => (Classical.choose_spec (hx i) hi).2.2.2⟩
/-- The first place where a property fails. -/
theorem first_bad {p : Nat → Bool} : ∀ n, (∀ i, i < n → p i = true) ∨ ∃ i, i < n ∧ (∀ j, j < i → p j = true) ∧ p i = false := by
  intro n
  induction n with
  | zero => exact .inl fun i h => absurd h (by omega)
  | succ n ih =>
    rcases ih with h | ⟨i, h1, h2, h3⟩
    · cases hp : p n with
      | true =>
        refine .inl fun i hi => ?_
        by_cases e : i = n
        · subst e; exact hp
        · exact h i (by omega)
      | false => exact .inr ⟨n, by omega, h, hp⟩
    · exact .inr ⟨i, by omega, h2, h3⟩
theorem sameQZ {w : World} : Calls Tryz.prog 39 #[.agg #[.bool false, .slice none 0 0, .slice none 0 0], .agg #[.bool false, .slice none 0 0, .slice none 0 0]] w (fun e w' => e = .returned (.bool true) ∧ Below w.heap.size w w') := by
  have zn : ∀ W, CN W (.slice none 0 0) 0 1 := fun W => ⟨Rd.nil W, by decide⟩
  have zi : ∀ W, CZ W (.agg #[.bool false, .slice none 0 0]) 0 1 := fun W => ⟨false, none, 0, 0, rfl, by decide, Rd.nil W, by decide⟩
  go_enter Tryz.func39, Tryz.ntmps39
  go_wp2_with (first
    | (go_at_call 99; (with_reducible refine Calls.cE (sameIC rfl) ?_); intros)
    | (go_at_call 100; (with_reducible refine Calls.cE (sameNC rfl) ?_); intros))
  go_ret
  exact E.fin rfl
end Go.Proofs.YtdlnoeegboapkaaGreatDoor
