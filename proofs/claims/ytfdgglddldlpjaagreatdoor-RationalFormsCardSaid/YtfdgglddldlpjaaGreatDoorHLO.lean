/-
  Texts of this claim, joined: Open.
-/
import Derived.Test.YtfdgglddldlpjaaGreatDoorGF
import Derived.OpenShut
import Derived.ProofKit
import Derived.ChangeSame
/- What a struct that came in as an argument of a law looks like: integers, rational numbers, points, lines of package api by value. -/
namespace Go.Proofs.YtfdgglddldlpjaaGreatDoor
open Go.RowKit Go.ChangeShapes Go.WideShapes

theorem len2 {α : Type} {l : List α} (h : l.length = 2) : ∃ a b, l = [a, b] := match l, h with | [a, b], _ => ⟨a, b, rfl⟩
theorem len3 {α : Type} {l : List α} (h : l.length = 3) : ∃ a b c, l = [a, b, c] := match l, h with | [a, b, c], _ => ⟨a, b, c, rfl⟩
theorem len6 {α : Type} {l : List α} (h : l.length = 6) : ∃ a b c d e f, l = [a, b, c, d, e, f] := match l, h with | [a, b, c, d, e, f], _ => ⟨a, b, c, d, e, f, rfl⟩
set_option maxRecDepth 100000
section
variable {H : Type} {enc : TypeId × Value → H} {W : World}
theorem tr_nat {fuel : Nat} {cs : List Value} {x : DataW H × List MemPlace} (h : DataW.trod enc Tryz.prog W 0 (fun _ => true) true fuel 23 cs = some x) : ∃ a l c zs, cs = [.slice a l c] ∧ IsRow .u32 W a l c zs := by
  rcases open_ints Tryz.underlying23 Tryz.underlying138 (by kernel_rfl) h with ⟨hcs, _⟩ | ⟨x, l, c, zs, hcs, _, hl, hm, hz, _, hcell, hwz⟩
  · exact ⟨none, 0, 0, [], hcs, .inl ⟨rfl, rfl, rfl, rfl⟩⟩
  · exact ⟨some x, l, c, zs, hcs, .inr ⟨x, rfl, hl, hm, by simpa using hz, hcell, hwz⟩⟩
theorem cells_int : Tryz.prog.cellsOf 25 = 2 := by kernel_rfl
theorem cells_rat : Tryz.prog.cellsOf 27 = 3 := by kernel_rfl
theorem cells_point : Tryz.prog.cellsOf 52 = 6 := by kernel_rfl
theorem cells_line : Tryz.prog.cellsOf 179 = 6 := by kernel_rfl
theorem cells_bool : Tryz.prog.cellsOf 4 = 1 := by kernel_rfl
theorem cells_nat : Tryz.prog.cellsOf 23 = 1 := by kernel_rfl
theorem tr_int {fuel : Nat} {cs : List Value} {x : DataW H × List MemPlace} (h : DataW.trod enc Tryz.prog W 0 (fun _ => true) true fuel 25 cs = some x) : ∃ g a l c zs, cs = [.bool g, .slice a l c] ∧ IsRow .u32 W a l c zs := by
  obtain ⟨y0, y1, n, _, hl, h0, h1⟩ := trod_struct2 Tryz.underlying25 h
  have hl2 := hl.trans cells_int
  obtain ⟨c0, c1, rfl⟩ := len2 hl2
  dsimp only at h0 h1
  rw [cells_bool] at h0
  rw [cells_nat] at h1
  obtain ⟨g, e0, _⟩ := DataW.trod_bool Tryz.underlying4 h0
  obtain ⟨a, l, c, zs, e1, w1⟩ := tr_nat h1
  simp at e0 e1
  subst e0; subst e1
  exact ⟨g, a, l, c, zs, rfl, w1⟩
theorem op_int {v : Value} {d : DataW H} {p : List MemPlace} {b0 : Nat} (hv : Value.okWide Tryz.prog W .any b0 25 v) (h : DataW.Trod enc Tryz.prog W 0 (fun _ => true) true 25 v d p) :
    ∃ g a l c zs, v = .agg #[.bool g, .slice a l c] ∧ IsRow .u32 W a l c zs := by
  obtain ⟨⟨cs⟩, rfl, hsz⟩ := okWide_struct Tryz.underlying25 hv
  obtain ⟨fuel, hf⟩ := h
  obtain ⟨g, a, l, c, zs, e, w1⟩ := tr_int (cs := cs) hf
  subst e
  exact ⟨g, a, l, c, zs, rfl, w1⟩
theorem tr_rat {fuel : Nat} {cs : List Value} {x : DataW H × List MemPlace} (h : DataW.trod enc Tryz.prog W 0 (fun _ => true) true fuel 27 cs = some x) : ∃ g a l c zs aa ll cc zz, cs = [.bool g, .slice a l c, .slice aa ll cc] ∧ IsRow .u32 W a l c zs ∧ IsRow .u32 W aa ll cc zz := by
  obtain ⟨y0, y1, n, _, hl, h0, h1⟩ := trod_struct2 Tryz.underlying27 h
  have hl2 := hl.trans cells_rat
  obtain ⟨c0, c1, c2, rfl⟩ := len3 hl2
  dsimp only at h0 h1
  rw [cells_int] at h0
  rw [cells_nat] at h1
  obtain ⟨g, a, l, c, zs, e0, w0⟩ := tr_int h0
  obtain ⟨aa, ll, cc, zz, e1, w1⟩ := tr_nat h1
  simp at e0 e1
  obtain ⟨rfl, rfl⟩ := e0
  subst e1
  exact ⟨g, a, l, c, zs, aa, ll, cc, zz, rfl, w0, w1⟩
theorem op_rat {v : Value} {d : DataW H} {p : List MemPlace} {b0 : Nat} (hv : Value.okWide Tryz.prog W .any b0 27 v) (h : DataW.Trod enc Tryz.prog W 0 (fun _ => true) true 27 v d p) :
    ∃ g a l c zs aa ll cc zz, v = .agg #[.bool g, .slice a l c, .slice aa ll cc] ∧ IsRow .u32 W a l c zs ∧ IsRow .u32 W aa ll cc zz := by
  obtain ⟨⟨cs⟩, rfl, hsz⟩ := okWide_struct Tryz.underlying27 hv
  obtain ⟨fuel, hf⟩ := h
  obtain ⟨g, a, l, c, zs, aa, ll, cc, zz, e, w1, w2⟩ := tr_rat (cs := cs) hf
  subst e
  exact ⟨g, a, l, c, zs, aa, ll, cc, zz, rfl, w1, w2⟩
theorem op_point {v : Value} {d : DataW H} {p : List MemPlace} {b0 : Nat} (hv : Value.okWide Tryz.prog W .any b0 52 v) (h : DataW.Trod enc Tryz.prog W 0 (fun _ => true) true 52 v d p) :
    ∃ g a l c zs aa ll cc zz g' a' l' c' zs' aa' ll' cc' zz', v = .agg #[.bool g, .slice a l c, .slice aa ll cc, .bool g', .slice a' l' c', .slice aa' ll' cc'] ∧ IsRow .u32 W a l c zs ∧ IsRow .u32 W aa ll cc zz ∧ IsRow .u32 W a' l' c' zs' ∧ IsRow .u32 W aa' ll' cc' zz' := by
  obtain ⟨⟨cs⟩, rfl, hsz⟩ := okWide_struct Tryz.underlying52 hv
  obtain ⟨fuel, hf⟩ := h
  obtain ⟨y0, y1, n, _, hl, h0, h1⟩ := trod_struct2 (cs := cs) Tryz.underlying52 hf
  have hl2 := hl.trans cells_point
  obtain ⟨c0, c1, c2, c3, c4, c5, rfl⟩ := len6 hl2
  dsimp only at h0 h1
  rw [cells_rat] at h0 h1
  obtain ⟨g, a, l, c, zs, aa, ll, cc, zz, e0, w0, w1⟩ := tr_rat h0
  obtain ⟨g', a', l', c', zs', aa', ll', cc', zz', e1, w0', w1'⟩ := tr_rat h1
  simp at e0 e1
  obtain ⟨rfl, rfl, rfl⟩ := e0
  obtain ⟨rfl, rfl, rfl⟩ := e1
  exact ⟨g, a, l, c, zs, aa, ll, cc, zz, g', a', l', c', zs', aa', ll', cc', zz', rfl, w0, w1, w0', w1'⟩
end
end Go.Proofs.YtfdgglddldlpjaaGreatDoor
