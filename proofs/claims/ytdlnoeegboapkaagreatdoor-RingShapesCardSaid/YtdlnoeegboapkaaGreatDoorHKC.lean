/-
  Texts of this claim, joined: Mt, Rh6, Rh7, Rh9, Rh2.
-/
import Derived.Test.YtdlnoeegboapkaaGreatDoorCL
import Derived.Test.YtdlnoeegboapkaaGreatDoorCI
import Derived.Test.YtdlnoeegboapkaaGreatDoorHKA
import Derived.Test.YtdlnoeegboapkaaGreatDoorCJ
namespace Go.Proofs.YtdlnoeegboapkaaGreatDoor
open Go.RowKit
set_option linter.unusedVariables false
set_option maxHeartbeats 40000000
set_option maxRecDepth 100000
set_option synthInstance.maxHeartbeats 1000000
set_option synthInstance.maxSize 100000
section
def rmax (x y : Rat) : Rat := if x < y then y else x
def rmin (x y : Rat) : Rat := if y < x then y else x
theorem lt_mm {a b c d : Rat} : rmax a b < rmin c d ↔ a < c ∧ a < d ∧ b < c ∧ b < d := by
  unfold rmax rmin
  split <;> split <;> constructor <;> intro h <;> grind
theorem ov_mm {f g : FG} {lo hi : Rat} (hf : FGV f) (hl : lo < hi) (h : OntoP f g lo hi) : OvP f g ↔ rmax f.lo lo < rmin f.hi hi := by
  rw [h.ov hf hl, lt_mm]
  have := hf.lt
  constructor
  · intro h; exact ⟨by grind, by grind, by grind, by grind⟩
  · intro h; exact ⟨by grind, by grind⟩
def SmL (f g : FG) : Prop := f.a = g.a ∧ f.b = g.b ∧ f.c = g.c
def OpL (f g : FG) : Prop := f.a = -g.a ∧ f.b = -g.b ∧ f.c = -g.c
def dtL (f g : FG) : Rat := (f.a : Rat) * g.b - f.b * g.a
theorem no_ov {f g : FG} (hf : FGV f) (hg : FGV g) (h1 : ¬ SmL f g) (h2 : ¬ OpL f g) : ¬ OvP f g := by
  by_cases hd : dtL f g = 0
  · rintro ⟨p, q, _, hc, _⟩
    rcases par_same hf hg hd hc with e | e
    · exact h1 e
    · exact h2 e
  · exact lines_noOv hd
theorem par_no {f g : FG} (hf : FGV f) (hg : FGV g) (h1 : ¬ SmL f g) (h2 : ¬ OpL f g) (hd : dtL f g = 0) {p : Rat × Rat} : ¬ MtP f g p := by
  intro hm
  rcases par_same hf hg hd hm.1 with e | e
  · exact h1 e
  · exact h2 e
def mtX (f g : FG) : Rat := ((f.b : Rat) * g.c - f.c * g.b) / dtL f g
def mtY (f g : FG) : Rat := ((f.c : Rat) * g.a - f.a * g.c) / dtL f g
theorem mt_on {f g : FG} (hd : dtL f g ≠ 0) : onL f.a f.b f.c (mtX f g) (mtY f g) ∧ onL g.a g.b g.c (mtX f g) (mtY f g) := by
  have hi := Rat.mul_inv_cancel _ hd
  unfold onL mtX mtY; rw [Rat.div_def, Rat.div_def]
  unfold dtL at *
  generalize ((f.a : Rat) * g.b - f.b * g.a)⁻¹ = M at hi
  constructor
  · have : (f.a : Rat) * (((f.b : Rat) * g.c - f.c * g.b) * M) + (f.b : Rat) * (((f.c : Rat) * g.a - f.a * g.c) * M) + (f.c : Rat) = (f.c : Rat) * (1 - ((f.a : Rat) * g.b - f.b * g.a) * M) := by grind
    rw [this, hi]; grind
  · have : (g.a : Rat) * (((f.b : Rat) * g.c - f.c * g.b) * M) + (g.b : Rat) * (((f.c : Rat) * g.a - f.a * g.c) * M) + (g.c : Rat) = (g.c : Rat) * (1 - ((f.a : Rat) * g.b - f.b * g.a) * M) := by grind
    rw [this, hi]; grind
def inV (lo hi t : Rat) : Prop := lo ≤ t ∧ t ≤ hi
instance {lo hi t : Rat} : Decidable (inV lo hi t) := inferInstanceAs (Decidable (_ ∧ _))
theorem mt_ok {f g : FG} (hd : dtL f g ≠ 0) (h1 : inV f.lo f.hi (parL f.a f.b (mtX f g) (mtY f g))) (h2 : inV g.lo g.hi (parL g.a g.b (mtX f g) (mtY f g))) : MtP f g (mtX f g, mtY f g) :=
  lines_mt hd ⟨⟨(mt_on hd).1, h1⟩, ⟨(mt_on hd).2, h2⟩⟩
theorem mt_eq {f g : FG} (hd : dtL f g ≠ 0) {p : Rat × Rat} (h : MtP f g p) : p = (mtX f g, mtY f g) := by
  obtain ⟨⟨a1, _⟩, ⟨b1, _⟩⟩ := h.1; obtain ⟨a2, b2⟩ := mt_on hd; unfold onL at a1 a2 b1 b2; unfold dtL at hd
  have e1 : ((f.a : Rat) * g.b - f.b * g.a) * (p.1 - mtX f g) = 0 := by grind
  have e2 : ((f.a : Rat) * g.b - f.b * g.a) * (p.2 - mtY f g) = 0 := by grind
  have e3 := (Rat.mul_eq_zero.1 e1).resolve_left hd
  have e4 := (Rat.mul_eq_zero.1 e2).resolve_left hd
  exact Prod.ext_iff.2 ⟨by grind, by grind⟩
theorem mt_no1 {f g : FG} (hd : dtL f g ≠ 0) (h : ¬ inV f.lo f.hi (parL f.a f.b (mtX f g) (mtY f g))) {p : Rat × Rat} : ¬ MtP f g p := by
  intro hm
  have e := mt_eq hd hm
  have := hm.1.1.2
  rw [e] at this; exact h this
theorem mt_no2 {f g : FG} (hd : dtL f g ≠ 0) (h : ¬ inV g.lo g.hi (parL g.a g.b (mtX f g) (mtY f g))) {p : Rat × Rat} : ¬ MtP f g p := by
  intro hm
  have e := mt_eq hd hm
  have := hm.1.2.2
  rw [e] at this; exact h this
theorem not_sm_op {f g : FG} (h : FGV f) (e : SmL f g) : ¬ OpL f g := by
  rintro ⟨h1, h2, _⟩
  obtain ⟨e1, e2, _⟩ := e
  exact h.v.1 ⟨by omega, by omega⟩
end
section
def insQ (x : Rat) : List Rat → List Rat
  | [] => [x]
  | y :: L => if y < x then y :: insQ x L else if y = x then y :: L else x :: y :: L
def SrtQ : List Rat → Prop
  | [] => True
  | x :: L => (∀ y ∈ L, x < y) ∧ SrtQ L
theorem insQ_mem {x y : Rat} {L : List Rat} : y ∈ insQ x L ↔ y = x ∨ y ∈ L := by
  induction L with
  | nil => simp [insQ]
  | cons z L ih =>
    unfold insQ
    split
    · simp only [List.mem_cons, ih]; constructor
      · rintro (h | h | h)
        · exact .inr (.inl h)
        · exact .inl h
        · exact .inr (.inr h)
      · rintro (h | h | h)
        · exact .inr (.inl h)
        · exact .inl h
        · exact .inr (.inr h)
    · split
      · next h => subst h; simp
      · simp
theorem insQ_srt {x : Rat} {L : List Rat} (h : SrtQ L) : SrtQ (insQ x L) := by
  induction L with
  | nil => exact ⟨fun _ h => by simp at h, trivial⟩
  | cons z L ih =>
    unfold insQ
    split
    · next hz =>
      refine ⟨fun y hy => ?_, ih h.2⟩
      rcases insQ_mem.1 hy with rfl | hy
      · exact hz
      · exact h.1 y hy
    · split
      · exact h
      · next h1 h2 =>
        have hxz : x < z := by grind
        refine ⟨fun y hy => ?_, h⟩
        rcases List.mem_cons.1 hy with rfl | hy
        · exact hxz
        · have := h.1 y hy; grind
def qg (C : List Rat) (i : Nat) : Rat := C.getD i 0
theorem qg_get {C : List Rat} {i : Nat} (h : i < C.length) : qg C i = C[i] := getD_lt h
theorem qg_mem {C : List Rat} {i : Nat} (h : i < C.length) : qg C i ∈ C := by rw [qg_get h]; exact List.getElem_mem h
theorem SrtQ.lt {C : List Rat} (h : SrtQ C) : ∀ i j, i < j → j < C.length → qg C i < qg C j := by
  induction C with
  | nil => intro i j _ hj; simp at hj
  | cons x L ih =>
    intro i j hij hj
    obtain ⟨j, rfl⟩ : ∃ k, j = k + 1 := ⟨j - 1, by omega⟩
    have hj' : j < L.length := by simpa using hj
    have e : qg (x :: L) (j + 1) = qg L j := by simp [qg]
    rw [e]
    cases i with
    | zero => exact h.1 _ (qg_mem hj')
    | succ i =>
      have e2 : qg (x :: L) (i + 1) = qg L i := by simp [qg]
      rw [e2]; exact ih h.2 i j (by omega) hj'
def prb (C : List Rat) (i : Nat) : Rat := if i = 0 then qg C 0 - 1 else if i = C.length then qg C (C.length - 1) + 1 else (qg C (i - 1) + qg C i) / 2
theorem prb_lt {C : List Rat} (h : SrtQ C) {i : Nat} (hi : i < C.length) : prb C i < qg C i ∧ qg C i < prb C (i + 1) := by
  constructor
  · unfold prb
    split
    · next e => subst e; grind
    · split
      · omega
      · have := h.lt (i - 1) i (by omega) hi; grind
  · unfold prb; rw [if_neg (by omega)]
    split
    · next e => rw [show C.length - 1 = i by omega]; grind
    · have := h.lt i (i + 1) (by omega) (by omega)
      rw [show i + 1 - 1 = i by omega]; grind
def bothV (a b c d t : Rat) : Prop := (a < t ∧ t < b) ∧ c < t ∧ t < d
theorem marks_apart {C : List Rat} (h : SrtQ C) {a b c d : Rat} (hC : ∀ y ∈ C, y = a ∨ y = b ∨ y = c ∨ y = d) {i : Nat} (hi : i < C.length) : ¬ (bothV a b c d (prb C i) ∧ bothV a b c d (prb C (i + 1))) := by
  rintro ⟨⟨⟨h1, h2⟩, h3, h4⟩, ⟨h5, h6⟩, h7, h8⟩
  obtain ⟨p1, p2⟩ := prb_lt h hi
  rcases hC _ (qg_mem hi) with e | e | e | e <;> grind
theorem mem_qg {C : List Rat} {y : Rat} (h : y ∈ C) : ∃ i, i < C.length ∧ qg C i = y := by
  obtain ⟨i, hi, e⟩ := List.mem_iff_getElem.1 h
  exact ⟨i, hi, by rw [qg_get hi, e]⟩
theorem marks_some {C : List Rat} (h : SrtQ C) {a b c d : Rat} (hC : ∀ y, y ∈ C ↔ y = a ∨ y = b ∨ y = c ∨ y = d) : (∃ i, i < C.length + 1 ∧ bothV a b c d (prb C i)) ↔ rmax a c < rmin b d := by
  constructor
  · rintro ⟨i, _, ⟨h1, h2⟩, h3, h4⟩
    rw [lt_mm]
    exact ⟨by grind, by grind, by grind, by grind⟩
  · intro hm
    have hm' := lt_mm.1 hm
    have hl : rmax a c ∈ C := (hC _).2 (by unfold rmax; split <;> simp)
    have hr : rmin b d ∈ C := (hC _).2 (by unfold rmin; split <;> simp)
    obtain ⟨p, hp, ep⟩ := mem_qg hl; obtain ⟨q, hq, eq⟩ := mem_qg hr
    have hpq : p < q := by
      rcases Nat.lt_or_ge p q with h1 | h1
      · exact h1
      · rcases Nat.eq_or_lt_of_le h1 with e | h2
        · subst e; rw [ep] at eq; rw [eq] at hm; exact absurd hm (by grind)
        · have := h.lt q p h2 hp
          rw [ep, eq] at this; exact absurd hm (by grind)
    have hq1 : q = p + 1 := by
      rcases Nat.lt_or_ge (p + 1) q with h1 | h1
      · have a1 := h.lt p (p + 1) (by omega) (by omega)
        have a2 := h.lt (p + 1) q h1 hq
        rw [ep] at a1; rw [eq] at a2
        rcases (hC _).1 (qg_mem (C := C) (i := p + 1) (by omega)) with e | e | e | e <;> (rw [e] at a1 a2; unfold rmax at a1; unfold rmin at a2; exact absurd hm' (by grind))
      · omega
    subst hq1
    refine ⟨p + 1, by omega, ?_⟩
    have e : prb C (p + 1) = (rmax a c + rmin b d) / 2 := by
      unfold prb
      rw [if_neg (by omega), if_neg (by omega), show p + 1 - 1 = p by omega, ep, eq]
    rw [e]
    have h1 : a ≤ rmax a c ∧ c ≤ rmax a c := by unfold rmax; split <;> constructor <;> grind
    have h2 : rmin b d ≤ b ∧ rmin b d ≤ d := by unfold rmin; split <;> constructor <;> grind
    unfold bothV
    exact ⟨⟨by grind, by grind⟩, by grind, by grind⟩
end
section
structure QV where
  g : Bool
  a : Option Addr
  n : Nat
  c : Nat
  aa : Option Addr
  nn : Nat
  cc : Nat
def QV.l (v : QV) : List Value := [.bool v.g, .slice v.a v.n v.c, .slice v.aa v.nn v.cc]
theorem QV.len (v : QV) : v.l.length = 3 := rfl
theorem QV.nd (v : QV) : ∀ u ∈ v.l, isDigit32 u = false := by
  intro u hu; simp only [QV.l, List.mem_cons, List.not_mem_nil, or_false] at hu; rcases hu with rfl | rfl | rfl <;> rfl
def rowQ (V : List QV) : List Value := V.flatMap QV.l
theorem rowQ_snoc (V : List QV) (a : QV) : rowQ (V ++ [a]) = rowQ V ++ a.l := flat_snoc _ _ _
theorem rowQ_nd (V : List QV) : ∀ u ∈ rowQ V, isDigit32 u = false := flat_nd QV.nd V
def qv (V : List QV) (i : Nat) : QV := V.getD i ⟨false, none, 0, 0, none, 0, 0⟩
theorem qv_get {V : List QV} {i : Nat} (h : i < V.length) : qv V i = V[i] := getD_lt h
theorem at_q {W w0 : World} {g k j : Nat} {V : List QV} (h : At W g (rowQ V) w0) (hk : k < V.length) (hj : j < 3) : W.cell? ⟨g, k * 3 + j, none⟩ = some ((qv V k).l[j]'hj) := by
  rw [qv_get hk]
  exact h.out _ _ (by rw [rowQ, flat_get QV.len V k j hk hj]; exact List.getElem?_eq_getElem (l := V[k].l) hj)
@[go_sem] theorem cell_q0 {W w0 : World} {g k : Nat} {V : List QV} [h : At W g (rowQ V) w0] (hk : k < V.length) : W.cell? ⟨g, k * 3, none⟩ = some (.bool (qv V k).g) := at_q h hk (j := 0) (by decide)
@[go_sem] theorem cell_q1 {W w0 : World} {g k : Nat} {V : List QV} [h : At W g (rowQ V) w0] (hk : k < V.length) : W.cell? ⟨g, k * 3 + 1, none⟩ = some (.slice (qv V k).a (qv V k).n (qv V k).c) := at_q h hk (j := 1) (by decide)
@[go_sem] theorem cell_q2 {W w0 : World} {g k : Nat} {V : List QV} [h : At W g (rowQ V) w0] (hk : k < V.length) : W.cell? ⟨g, k * 3 + 2, none⟩ = some (.slice (qv V k).aa (qv V k).nn (qv V k).cc) := at_q h hk (j := 2) (by decide)
@[go_sem] theorem load_Qv {W w0 : World} {g k : Nat} {V : List QV} [h : At W g (rowQ V) w0] (hk : k < V.length) : (loadVar 45 ⟨g, k * 3, none⟩).run Tryz.prog W = .ok (.agg #[.bool (qv V k).g, .slice (qv V k).a (qv V k).n (qv V k).c, .slice (qv V k).aa (qv V k).nn (qv V k).cc]) W :=
  load_off W g (k * 3) 45 (qv V k).l _ Tryz.underlying45 rfl (by kernel_rfl) (fun j hj => at_q h hk hj)
theorem cell_qz0 {W w0 : World} {g : Nat} {V : List QV} [h : At W g (rowQ V) w0] (hk : 0 < V.length) : W.cell? ⟨g, 0, none⟩ = some (.bool (qv V 0).g) := by
  have := at_q h hk (j := 0) (by decide)
  rw [Nat.zero_mul, Nat.zero_add] at this; exact this
theorem cell_qz1 {W w0 : World} {g : Nat} {V : List QV} [h : At W g (rowQ V) w0] (hk : 0 < V.length) : W.cell? ⟨g, 1, none⟩ = some (.slice (qv V 0).a (qv V 0).n (qv V 0).c) := by
  have := at_q h hk (j := 1) (by decide)
  rw [Nat.zero_mul, Nat.zero_add] at this; exact this
theorem cell_qz2 {W w0 : World} {g : Nat} {V : List QV} [h : At W g (rowQ V) w0] (hk : 0 < V.length) : W.cell? ⟨g, 2, none⟩ = some (.slice (qv V 0).aa (qv V 0).nn (qv V 0).cc) := by
  have := at_q h hk (j := 2) (by decide)
  rw [Nat.zero_mul, Nat.zero_add] at this; exact this
class PsN (W : World) (V : List QV) (L : outParam (List Rat)) (k : outParam Nat) : Prop where
  len : V.length = L.length
  x : ∀ i, i < V.length → CQ W (.agg #[.bool (qv V i).g, .slice (qv V i).a (qv V i).n (qv V i).c, .slice (qv V i).aa (qv V i).nn (qv V i).cc]) (qg L i) k
section
variable {W W2 : World} {V : List QV} {L : List Rat} {k : Nat}
instance PsN.al {o : Obj} [h : PsN W V L k] : PsN (W.alloc o) V L k := ⟨h.len, fun i hi => by have := h.x i hi; infer_instance⟩
instance PsN.dr [h : PsN W V L k] : PsN W.drew V L k := ⟨h.len, fun i hi => by have := h.x i hi; infer_instance⟩
instance (priority := low) PsN.kp [b : Kp1 W W2] [h : PsN W V L k] : PsN W2 V L k := ⟨h.len, fun i hi => by have := h.x i hi; infer_instance⟩
instance (priority := low) PsN.apn [b : Apn W W2] [h : PsN W V L k] : PsN W2 V L k := ⟨h.len, fun i hi => by have := h.x i hi; infer_instance⟩
instance PsN.ix {i : Nat} [h : PsN W V L k] [l : LtN i V.length] : CQ W (.agg #[.bool (qv V i).g, .slice (qv V i).a (qv V i).n (qv V i).c, .slice (qv V i).aa (qv V i).nn (qv V i).cc]) (qg L i) k := h.x i l.out
theorem PsN.nil : PsN W [] [] k := ⟨rfl, fun i hi => by simp at hi⟩
theorem PsN.snoc {e : QV} {x : Rat} {kx : Nat} (h : PsN W V L k) (hx : CQ W (.agg #[.bool e.g, .slice e.a e.n e.c, .slice e.aa e.nn e.cc]) x kx) (b : kx ≤ k) : PsN W (V ++ [e]) (L ++ [x]) k := by
  refine ⟨by simp [h.len], fun i hi => ?_⟩
  rcases Nat.lt_or_ge i V.length with hlt | hge
  · have e1 : qv (V ++ [e]) i = qv V i := by rw [qv_get hi, qv_get hlt, List.getElem_append_left hlt]
    have e2 : qg (L ++ [x]) i = qg L i := by rw [qg_get (by rw [List.length_append, ← h.len]; omega), qg_get (by rw [← h.len]; exact hlt), List.getElem_append_left (by rw [← h.len]; exact hlt)]
    rw [e1, e2]; exact h.x i hlt
  · have hi' : i = V.length := by simp at hi; omega
    subst hi'
    have e1 : qv (V ++ [e]) V.length = e := by rw [qv_get hi]; simp
    have e2 : qg (L ++ [x]) V.length = x := by rw [h.len, qg_get (by simp)]; simp
    rw [e1, e2]; exact hx.cast rfl b
theorem PsN.add {g : Bool} {a : Option Addr} {n c : Nat} {aa : Option Addr} {nn cc : Nat} {x : Rat} {kx : Nat} [h : PsN W V L k] [hx : CQ W (.agg #[.bool g, .slice a n c, .slice aa nn cc]) x kx] (b : kx ≤ k) : PsN W (V ++ [⟨g, a, n, c, aa, nn, cc⟩]) (L ++ [x]) k := PsN.snoc (e := ⟨g, a, n, c, aa, nn, cc⟩) h hx b
end
def PsNRet (w : World) (L : List Rat) (k : Nat) (e : Ending) (w' : World) : Prop := ∃ (a : Option Addr) (c : Nat) (V : List QV), e = .returned (.slice a V.length c) ∧ Sl w' (.slice a V.length c) V.length (rowQ V) w' ∧ PsN w' V L k ∧ Below w.heap.size w w'
theorem Calls.cPsN {P : Program} {f : FuncId} {args : Array Value} {w : World} {L : List Rat} {k : Nat} {K : Ending → World → Prop} (h : Calls P f args w (PsNRet w L k))
    (hK : ∀ w' [Kp1 w w'] (a : Option Addr) (c : Nat) (V : List QV) [Sl w' (.slice a V.length c) V.length (rowQ V) w'] [PsN w' V L k], K (.returned (.slice a V.length c)) w') : Calls P f args w K := by
  refine h.mono ?_
  rintro e w' ⟨a, c, V, rfl, hs, hv, hb⟩
  exact @hK w' ⟨hb⟩ a c V hs hv
theorem PsNRet.fin {w w' w0 : World} {a : Option Addr} {c n : Nat} {V : List QV} {L L' : List Rat} {k k' : Nat} [b : Kp w w'] [hs : Sl w' (.slice a n c) V.length (rowQ V) w0] [hv : PsN w' V L k] (e : L = L') (m : k ≤ k') : PsNRet w L' k' (.returned (.slice a n c)) w' := by
  subst e; obtain rfl := hs.len
  exact ⟨a, c, V, rfl, hs.here, ⟨hv.len, fun i hi => (hv.x i hi).cast rfl m⟩, b.out⟩
end
section
theorem insQ_new {C : List Rat} {x : Rat} : ∀ {p : Nat}, p ≤ C.length → (∀ j, j < p → qg C j < x) → (p = C.length ∨ x < qg C p) → insQ x C = C.take p ++ x :: C.drop p := by
  induction C with
  | nil => intro p hp _ _; simp at hp; subst hp; rfl
  | cons z C ih =>
    intro p hp h hn
    cases p with
    | zero =>
      have hz : x < z := by
        rcases hn with hn | hn
        · simp at hn
        · exact hn
      unfold insQ; rw [if_neg (by grind), if_neg (by grind)]; rfl
    | succ p =>
      have hz : z < x := h 0 (by omega)
      have h2 : ∀ j, qg (z :: C) (j + 1) = qg C j := fun j => by simp [qg]
      unfold insQ
      rw [if_pos hz, ih (p := p) (by simpa using hp) (fun j hj => by have := h (j + 1) (by omega); rwa [h2] at this) (by
        rcases hn with hn | hn
        · exact .inl (by simpa using hn)
        · exact .inr (by rwa [h2] at hn))]
      rfl
theorem insQ_old {C : List Rat} {x : Rat} : ∀ {p : Nat}, p < C.length → (∀ j, j < p → qg C j < x) → qg C p = x → insQ x C = C := by
  induction C with
  | nil => intro p hp; simp at hp
  | cons z C ih =>
    intro p hp h he
    cases p with
    | zero =>
      have hz : z = x := he
      unfold insQ; rw [if_neg (by grind), if_pos hz]
    | succ p =>
      have hz : z < x := h 0 (by omega)
      have h2 : ∀ j, qg (z :: C) (j + 1) = qg C j := fun j => by simp [qg]
      unfold insQ; rw [if_pos hz, ih (p := p) (by simpa using hp) (fun j hj => by have := h (j + 1) (by omega); rwa [h2] at this) (by rwa [h2] at he)]
theorem insQ_len {x : Rat} {C : List Rat} : (insQ x C).length ≤ C.length + 1 := by
  induction C with
  | nil => simp [insQ]
  | cons z C ih =>
    unfold insQ
    split
    · simp only [List.length_cons]; omega
    · split
      · simp only [List.length_cons]; omega
      · simp only [List.length_cons]; omega
theorem insQ_pos {x : Rat} {C : List Rat} : 0 < (insQ x C).length := by
  cases C with
  | nil => simp [insQ]
  | cons z C =>
    unfold insQ
    split
    · simp
    · split <;> simp
theorem PsN.ins {W : World} {V : List QV} {L : List Rat} {k p : Nat} {e : QV} {x : Rat} (h : PsN W V L k) (hp : p ≤ V.length) (hx : CQ W (.agg #[.bool e.g, .slice e.a e.n e.c, .slice e.aa e.nn e.cc]) x k) :
    PsN W (V.take p ++ e :: V.drop p) (L.take p ++ x :: L.drop p) k := by
  have hl := h.len
  have hlen : (V.take p ++ e :: V.drop p).length = V.length + 1 := by simp; omega
  have hlen2 : (L.take p ++ x :: L.drop p).length = L.length + 1 := by simp; omega
  have key : ∀ i, i < V.length + 1 → (i < p ∧ qv (V.take p ++ e :: V.drop p) i = qv V i ∧ qg (L.take p ++ x :: L.drop p) i = qg L i) ∨ (i = p ∧ qv (V.take p ++ e :: V.drop p) i = e ∧ qg (L.take p ++ x :: L.drop p) i = x) ∨ (p < i ∧ qv (V.take p ++ e :: V.drop p) i = qv V (i - 1) ∧ qg (L.take p ++ x :: L.drop p) i = qg L (i - 1)) := by
    intro i hi; have h2 : i < (L.take p ++ x :: L.drop p).length := (by omega)
    rcases Nat.lt_trichotomy i p with h1 | h1 | h1
    · refine .inl ⟨h1, ?_, ?_⟩
      · rw [qv_get (by omega), qv_get (by omega), List.getElem_append_left (by simp; omega), List.getElem_take]
      · rw [qg_get h2, qg_get (by omega), List.getElem_append_left (by simp; omega), List.getElem_take]
    · subst h1
      refine .inr (.inl ⟨rfl, ?_, ?_⟩)
      · rw [qv_get (by omega), List.getElem_append_right (by simp; omega)]; simp only [List.length_take, Nat.min_eq_left hp, Nat.sub_self, List.getElem_cons_zero]
      · rw [qg_get h2, List.getElem_append_right (by simp; omega)]; simp only [List.length_take, Nat.min_eq_left (show i ≤ L.length by omega), Nat.sub_self, List.getElem_cons_zero]
    · obtain ⟨j, rfl⟩ : ∃ j, i = p + 1 + j := ⟨i - (p + 1), by omega⟩
      refine .inr (.inr ⟨h1, ?_, ?_⟩)
      · rw [qv_get (by omega), qv_get (by omega), List.getElem_append_right (by simp; omega)]
        simp only [List.length_take, Nat.min_eq_left hp, show p + 1 + j - p = j + 1 by omega, List.getElem_cons_succ, List.getElem_drop, show p + 1 + j - 1 = p + j by omega]
      · rw [qg_get h2, qg_get (by omega), List.getElem_append_right (by simp; omega)]
        simp only [List.length_take, Nat.min_eq_left (show p ≤ L.length by omega), show p + 1 + j - p = j + 1 by omega, List.getElem_cons_succ, List.getElem_drop, show p + 1 + j - 1 = p + j by omega]
  refine ⟨by rw [hlen, hlen2]; omega, fun i hi => ?_⟩
  rw [hlen] at hi
  rcases key i hi with ⟨h1, h2, h3⟩ | ⟨h1, h2, h3⟩ | ⟨h1, h2, h3⟩
  · rw [h2, h3]; exact h.x i (by omega)
  · rw [h2, h3]; exact hx
  · rw [h2, h3]; exact h.x (i - 1) (by omega)
theorem rowQ_drop (U : List QV) (p : Nat) : ∀ (j : Nat) (u : Value), (rowQ (U.drop p))[j]? = some u → (rowQ U)[p * 3 + j]? = some u := by
  induction U generalizing p with
  | nil => intro j u h; simp [rowQ] at h
  | cons x U ih =>
    intro j u h
    cases p with
    | zero => simpa using h
    | succ p =>
      have h2 := ih p j u h
      have e : rowQ (x :: U) = x.l ++ rowQ U := by simp [rowQ]
      rw [e, List.getElem?_append_right (by rw [QV.len]; omega), QV.len]
      rw [show (p + 1) * 3 + j - 3 = p * 3 + j by omega]
      exact h2
theorem rowQ_take (U : List QV) (p : Nat) : ∀ (j : Nat) (u : Value), (rowQ (U.take p))[j]? = some u → (rowQ U)[j]? = some u := by
  intro j u h
  have e : rowQ U = rowQ (U.take p) ++ rowQ (U.drop p) := by
    unfold rowQ; rw [← List.flatMap_append, List.take_append_drop]
  have hl : j < (rowQ (U.take p)).length := by
    rcases Nat.lt_or_ge j (rowQ (U.take p)).length with h1 | h1
    · exact h1
    · rw [List.getElem?_eq_none h1] at h; cases h
  rw [e, List.getElem?_append_left hl]; exact h
theorem rowQ_cons (x : QV) (U : List QV) : rowQ (x :: U) = x.l ++ rowQ U := by simp [rowQ]
theorem rowQ_app (U V : List QV) : rowQ (U ++ V) = rowQ U ++ rowQ V := by simp [rowQ]
theorem rowQ_len (U : List QV) : (rowQ U).length = U.length * 3 := flat_len QV.len U
structure SPV where
  gu : Bool
  au : Option Addr
  lu : Nat
  cu : Nat
  aau : Option Addr
  llu : Nat
  ccu : Nat
  gv : Bool
  av : Option Addr
  lv : Nat
  cv : Nat
  aav : Option Addr
  llv : Nat
  ccv : Nat
def SPV.l (v : SPV) : List Value := [.bool v.gu, .slice v.au v.lu v.cu, .slice v.aau v.llu v.ccu, .bool v.gv, .slice v.av v.lv v.cv, .slice v.aav v.llv v.ccv, .bool false, .bool false]
theorem SPV.len (v : SPV) : v.l.length = 8 := rfl
theorem SPV.one (v : SPV) : ∀ u ∈ v.l, u.oneCell' = true := by
  intro u hu; simp only [SPV.l, List.mem_cons, List.not_mem_nil, or_false] at hu; rcases hu with rfl | rfl | rfl | rfl | rfl | rfl | rfl | rfl <;> rfl
theorem SPV.nd (v : SPV) : ∀ u ∈ v.l, isDigit32 u = false := by
  intro u hu; simp only [SPV.l, List.mem_cons, List.not_mem_nil, or_false] at hu; rcases hu with rfl | rfl | rfl | rfl | rfl | rfl | rfl | rfl <;> rfl
def rowSP (V : List SPV) : List Value := V.flatMap SPV.l
def spv (V : List SPV) (i : Nat) : SPV := V.getD i ⟨false, none, 0, 0, none, 0, 0, false, none, 0, 0, none, 0, 0⟩
theorem spv_get {V : List SPV} {i : Nat} (h : i < V.length) : spv V i = V[i] := getD_lt h
theorem at_spv {W w0 : World} {g k j : Nat} {V : List SPV} (h : At W g (rowSP V) w0) (hk : k < V.length) (hj : j < 8) : W.cell? ⟨g, k * 8 + j, none⟩ = some ((spv V k).l[j]'hj) := by
  rw [spv_get hk]
  exact h.out _ _ (by rw [rowSP, flat_get SPV.len V k j hk hj]; exact List.getElem?_eq_getElem (l := V[k].l) hj)
@[go_sem] theorem load_spv {W w0 : World} {g k : Nat} {V : List SPV} [h : At W g (rowSP V) w0] (hk : k < V.length) : (loadVar 165 ⟨g, k * 8, none⟩).run Tryz.prog W = .ok (.agg #[.bool (spv V k).gu, .slice (spv V k).au (spv V k).lu (spv V k).cu, .slice (spv V k).aau (spv V k).llu (spv V k).ccu, .bool (spv V k).gv, .slice (spv V k).av (spv V k).lv (spv V k).cv, .slice (spv V k).aav (spv V k).llv (spv V k).ccv, .bool false, .bool false]) W :=
  load_off W g (k * 8) 165 (spv V k).l _ Tryz.underlying165 rfl (by kernel_rfl) (fun j hj => at_spv h hk hj)
structure TPV where
  gu : Bool
  au : Option Addr
  lu : Nat
  cu : Nat
  aau : Option Addr
  llu : Nat
  ccu : Nat
  gv : Bool
  av : Option Addr
  lv : Nat
  cv : Nat
  aav : Option Addr
  llv : Nat
  ccv : Nat
  p : Bool
  q : Bool
def TPV.l (v : TPV) : List Value := [.bool v.gu, .slice v.au v.lu v.cu, .slice v.aau v.llu v.ccu, .bool v.gv, .slice v.av v.lv v.cv, .slice v.aav v.llv v.ccv, .bool v.p, .bool v.q]
theorem TPV.len (v : TPV) : v.l.length = 8 := rfl
theorem TPV.one (v : TPV) : ∀ u ∈ v.l, u.oneCell' = true := by
  intro u hu; simp only [TPV.l, List.mem_cons, List.not_mem_nil, or_false] at hu; rcases hu with rfl | rfl | rfl | rfl | rfl | rfl | rfl | rfl <;> rfl
theorem TPV.nd (v : TPV) : ∀ u ∈ v.l, isDigit32 u = false := by
  intro u hu; simp only [TPV.l, List.mem_cons, List.not_mem_nil, or_false] at hu; rcases hu with rfl | rfl | rfl | rfl | rfl | rfl | rfl | rfl <;> rfl
def rowTP (V : List TPV) : List Value := V.flatMap TPV.l
theorem rowTP_snoc (V : List TPV) (a : TPV) : rowTP (V ++ [a]) = rowTP V ++ a.l := flat_snoc _ _ _
theorem rowTP_nd (V : List TPV) : ∀ u ∈ rowTP V, isDigit32 u = false := flat_nd TPV.nd V
def tpv (V : List TPV) (i : Nat) : TPV := V.getD i ⟨false, none, 0, 0, none, 0, 0, false, none, 0, 0, none, 0, 0, false, false⟩
theorem tpv_get {V : List TPV} {i : Nat} (h : i < V.length) : tpv V i = V[i] := getD_lt h
theorem at_tpv {W w0 : World} {g k j : Nat} {V : List TPV} (h : At W g (rowTP V) w0) (hk : k < V.length) (hj : j < 8) : W.cell? ⟨g, k * 8 + j, none⟩ = some ((tpv V k).l[j]'hj) := by
  rw [tpv_get hk]
  exact h.out _ _ (by rw [rowTP, flat_get TPV.len V k j hk hj]; exact List.getElem?_eq_getElem (l := V[k].l) hj)
@[go_sem] theorem load_tpv {W w0 : World} {g k : Nat} {V : List TPV} [h : At W g (rowTP V) w0] (hk : k < V.length) : (loadVar 165 ⟨g, k * 8, none⟩).run Tryz.prog W = .ok (.agg #[.bool (tpv V k).gu, .slice (tpv V k).au (tpv V k).lu (tpv V k).cu, .slice (tpv V k).aau (tpv V k).llu (tpv V k).ccu, .bool (tpv V k).gv, .slice (tpv V k).av (tpv V k).lv (tpv V k).cv, .slice (tpv V k).aav (tpv V k).llv (tpv V k).ccv, .bool (tpv V k).p, .bool (tpv V k).q]) W :=
  load_off W g (k * 8) 165 (tpv V k).l _ Tryz.underlying165 rfl (by kernel_rfl) (fun j hj => at_tpv h hk hj)
class PsSP (W : World) (V : List SPV) (L : outParam (List (Rat × Rat))) (k : outParam Nat) : Prop where
  len : V.length = L.length
  u : ∀ i, i < V.length → CQ W (.agg #[.bool (spv V i).gu, .slice (spv V i).au (spv V i).lu (spv V i).cu, .slice (spv V i).aau (spv V i).llu (spv V i).ccu]) (pg L i).1 k
  v : ∀ i, i < V.length → CQ W (.agg #[.bool (spv V i).gv, .slice (spv V i).av (spv V i).lv (spv V i).cv, .slice (spv V i).aav (spv V i).llv (spv V i).ccv]) (pg L i).2 k
section
variable {W W2 : World} {V : List SPV} {L : List (Rat × Rat)} {k : Nat}
instance (priority := low) PsSP.kp [b : Kp1 W W2] [h : PsSP W V L k] : PsSP W2 V L k := ⟨h.len, fun i hi => by have := h.u i hi; infer_instance, fun i hi => by have := h.v i hi; infer_instance⟩
theorem PsSP.two {gu1 : Bool} {au1 aau1 : Option Addr} {lu1 cu1 llu1 ccu1 : Nat} {gv1 : Bool} {av1 aav1 : Option Addr} {lv1 cv1 llv1 ccv1 : Nat} {gu2 : Bool} {au2 aau2 : Option Addr} {lu2 cu2 llu2 ccu2 : Nat} {gv2 : Bool} {av2 aav2 : Option Addr} {lv2 cv2 llv2 ccv2 : Nat} {x1 y1 x2 y2 : Rat} {k1 k2 k3 k4 : Nat} [h1 : CQ W (.agg #[.bool gu1, .slice au1 lu1 cu1, .slice aau1 llu1 ccu1]) x1 k1] [h2 : CQ W (.agg #[.bool gv1, .slice av1 lv1 cv1, .slice aav1 llv1 ccv1]) y1 k2] [h3 : CQ W (.agg #[.bool gu2, .slice au2 lu2 cu2, .slice aau2 llu2 ccu2]) x2 k3] [h4 : CQ W (.agg #[.bool gv2, .slice av2 lv2 cv2, .slice aav2 llv2 ccv2]) y2 k4] (b : k1 ≤ k ∧ k2 ≤ k ∧ k3 ≤ k ∧ k4 ≤ k) : PsSP W [⟨gu1, au1, lu1, cu1, aau1, llu1, ccu1, gv1, av1, lv1, cv1, aav1, llv1, ccv1⟩, ⟨gu2, au2, lu2, cu2, aau2, llu2, ccu2, gv2, av2, lv2, cv2, aav2, llv2, ccv2⟩] [(x1, y1), (x2, y2)] k := by
  obtain ⟨b1, b2, b3, b4⟩ := b
  refine ⟨rfl, fun i hi => ?_, fun i hi => ?_⟩
  · have hi2 : i < 2 := hi
    rcases (by omega : i = 0 ∨ i = 1) with rfl | rfl
    · exact h1.cast rfl b1
    · exact h3.cast rfl b3
  · have hi2 : i < 2 := hi
    rcases (by omega : i = 0 ∨ i = 1) with rfl | rfl
    · exact h2.cast rfl b2
    · exact h4.cast rfl b4
end
theorem info_nq : (Tryz.prog.info? 45).map (fun i => (i.zero, i.size, i.bytes)) = some (some (.agg #[.bool false, .slice none 0 0, .slice none 0 0]), 3, 56) := by kernel_rfl
instance boxT_nq : BoxT 45 := by constructor <;> decide
theorem info_sp : (Tryz.prog.info? 165).map (fun i => (i.zero, i.size, i.bytes)) = some (some (.agg #[.bool false, .slice none 0 0, .slice none 0 0, .bool false, .slice none 0 0, .slice none 0 0, .bool false, .bool false]), 8, 120) := by kernel_rfl
instance boxT_sp : BoxT 165 := by constructor <;> decide
def endsL (L : List (Rat × Rat)) : List Rat := L.foldl (fun C p => insQ p.2 (insQ p.1 C)) []
def SpLRet (w : World) (m : Nat) (e : Ending) (w' : World) : Prop := ∃ (a : Option Addr) (c : Nat) (V : List TPV), V.length = m ∧ e = .returned (.slice a V.length c) ∧ Sl w' (.slice a V.length c) V.length (rowTP V) w' ∧ Below w.heap.size w w'
theorem Calls.cSpL {P : Program} {f : FuncId} {args : Array Value} {w : World} {m : Nat} {K : Ending → World → Prop} (h : Calls P f args w (SpLRet w m))
    (hK : ∀ w' [Kp1 w w'] (a : Option Addr) (c : Nat) (V : List TPV) [Sl w' (.slice a V.length c) V.length (rowTP V) w'], Hid (V.length = m) → K (.returned (.slice a V.length c)) w') : Calls P f args w K := by
  refine h.mono ?_
  rintro e w' ⟨a, c, V, hm, rfl, hs, hb⟩
  exact @hK w' ⟨hb⟩ a c V hs (Lib.hid hm)
end
section
def clsV (lo hi t : Rat) : Int := if lo < t ∧ t < hi then 2 else if t = lo ∨ t = hi then 1 else 0
theorem isgn_s (x y : Rat) : (x < y ∧ isgn (x - y).num = -1) ∨ (x = y ∧ isgn (x - y).num = 0) ∨ (y < x ∧ isgn (x - y).num = 1) := by
  rcases isgn_cases (x - y).num with ⟨_, h⟩ | ⟨_, h⟩ | ⟨_, h⟩
  · exact .inl ⟨by have := isg_neg.1 h; grind, h⟩
  · exact .inr (.inl ⟨by have := isg_zero.1 h; grind, h⟩)
  · exact .inr (.inr ⟨by have := isg_pos.1 h; grind, h⟩)
theorem refClass1 {w : World} {q : Nat} {gu gv gz : Bool} {au aau av aav az aaz : Option Addr} {lu cu llu ccu lv cv llv ccv lz cz llz ccz : Nat} [hb : Bx w q 165 [.bool gu, .slice au lu cu, .slice aau llu ccu, .bool gv, .slice av lv cv, .slice aav llv ccv, .bool false, .bool false]] {lo hi t : Rat} {k kt : Nat} [ju : CQ w (.agg #[.bool gu, .slice au lu cu, .slice aau llu ccu]) lo k] [jv : CQ w (.agg #[.bool gv, .slice av lv cv, .slice aav llv ccv]) hi k] [jz : CQ w (.agg #[.bool gz, .slice az lz cz, .slice aaz llz ccz]) t kt] (b : k ≤ 9000 ∧ kt ≤ 9000) (hlt : lo < hi) {v : Int} (hv : Hid (clsV lo hi t = v)) :
    Calls Tryz.prog 245 #[.slice (some ⟨q, 0, none⟩) 1 1, .agg #[.bool gz, .slice az lz cz, .slice aaz llz ccz]] w (fun e w' => e = .returned (.int .i64 v) ∧ Below w.heap.size w w') := by
  rcases isgn_s t lo with ⟨h, hc⟩ | ⟨h, hc⟩ | ⟨h, hc⟩
  all_goals rcases isgn_s t hi with ⟨h', hc'⟩ | ⟨h', hc'⟩ | ⟨h', hc'⟩
  all_goals try exact absurd hlt (by grind)
  all_goals
    have HV := Lib.hid hc; have HW := Lib.hid hc'; clear hc hc'; go_enter Tryz.func245, Tryz.ntmps245; go_wp2_with fail
    refine wp_loop_rounds 2 ?_
    rw [rounds_succ]
    go_wp2_with (first
      | (go_at_call 78; (with_reducible refine Calls.cE (numCV (by omega) HV) ?_); intros)
      | (go_at_call 78; (with_reducible refine Calls.cE (numCV (by omega) HW) ?_); intros))
    try rw [rounds_succ]
    try go_wp2_with fail
    go_ret
    refine E.fin ?_
    rw [← hv.out]; unfold clsV
    first
      | (rw [if_pos (by grind)]; rfl)
      | (rw [if_neg (by grind), if_pos (by grind)]; rfl)
      | (rw [if_neg (by grind), if_neg (by grind)]; rfl)
theorem refIn1 {w : World} {q : Nat} {gu gv gz : Bool} {au aau av aav az aaz : Option Addr} {lu cu llu ccu lv cv llv ccv lz cz llz ccz : Nat} [hb : Bx w q 165 [.bool gu, .slice au lu cu, .slice aau llu ccu, .bool gv, .slice av lv cv, .slice aav llv ccv, .bool false, .bool false]] {lo hi t : Rat} {k kt : Nat} [ju : CQ w (.agg #[.bool gu, .slice au lu cu, .slice aau llu ccu]) lo k] [jv : CQ w (.agg #[.bool gv, .slice av lv cv, .slice aav llv ccv]) hi k] [jz : CQ w (.agg #[.bool gz, .slice az lz cz, .slice aaz llz ccz]) t kt] (b : k ≤ 9000 ∧ kt ≤ 9000) (hlt : lo < hi) {v : Bool} (hv : Hid (decide (lo < t ∧ t < hi) = v)) :
    Calls Tryz.prog 240 #[.slice (some ⟨q, 0, none⟩) 1 1, .agg #[.bool gz, .slice az lz cz, .slice aaz llz ccz]] w (fun e w' => e = .returned (.bool v) ∧ Below w.heap.size w w') := by
  obtain ⟨c, hc⟩ : ∃ c, clsV lo hi t = c := ⟨_, rfl⟩; have HC := Lib.hid hc
  have e2 : (c == 2) = v := by
    rw [← hv.out, ← hc]; unfold clsV
    by_cases h : lo < t ∧ t < hi
    · rw [if_pos h, decide_eq_true h]; rfl
    · rw [if_neg h, decide_eq_false h]; split <;> rfl
  clear hc hv; go_enter Tryz.func240, Tryz.ntmps240
  go_wp2_with (first
    | (go_at_call 245; (with_reducible refine Calls.cE (refClass1 (by omega) hlt HC) ?_); intros))
  go_ret
  exact E.fin (by rw [← e2]; first | rfl | simp)
end
end Go.Proofs.YtdlnoeegboapkaaGreatDoor
