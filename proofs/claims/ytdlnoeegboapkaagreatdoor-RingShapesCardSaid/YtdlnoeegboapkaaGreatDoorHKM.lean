/-
  Texts of this claim, joined: Tg, Rg24a, Rh10.
-/
import Derived.Test.YtdlnoeegboapkaaGreatDoorCO
import Derived.Test.YtdlnoeegboapkaaGreatDoorHKI
namespace Go.Proofs.YtdlnoeegboapkaaGreatDoor
open Go.RowKit
set_option linter.unusedVariables false
set_option maxRecDepth 100000
section
theorem quo_small {n d : Int} (hd : d ≠ 0) : ((n : Rat) / (d : Rat)).num.natAbs ≤ n.natAbs ∧ ((n : Rat) / (d : Rat)).den ≤ d.natAbs := by
  have hd' : (d : Rat) ≠ 0 := fun e => hd (by exact_mod_cast e)
  have hi := Rat.mul_inv_cancel (d : Rat) hd'
  rw [Rat.div_def]
  generalize hq : (n : Rat) * (d : Rat)⁻¹ = q
  have h1 : q * (d : Rat) = n := by rw [← hq]; grind
  have h2 := int_mul_den q
  have h3 : q.num * d = n * (q.den : Int) := by
    have : ((q.num * d : Int) : Rat) = ((n * (q.den : Int) : Int) : Rat) := by
      rw [Rat.intCast_mul, Rat.intCast_mul, ← h2, ← h1]; grind
    exact_mod_cast this
  have hc := q.reduced
  have h4 : q.num.natAbs * d.natAbs = n.natAbs * q.den := by
    have := congrArg Int.natAbs h3
    rw [Int.natAbs_mul, Int.natAbs_mul, Int.natAbs_natCast] at this; exact this
  constructor
  · by_cases h0 : n.natAbs = 0
    · rw [h0, Nat.zero_mul] at h4
      rcases Nat.mul_eq_zero.1 h4 with e | e <;> omega
    · exact Nat.le_of_dvd (by omega) (hc.dvd_of_dvd_mul_right ⟨d.natAbs, h4.symm⟩)
  · exact Nat.le_of_dvd (by omega) (hc.symm.dvd_of_dvd_mul_left ⟨n.natAbs, by rw [h4, Nat.mul_comm]⟩)
theorem CF.tight {W : World} {v : Value} {q : Rat} {k : Nat} (h : CF W v q k) (b1 : q.num.natAbs < 4294967296) (b2 : q.den < 4294967296) : CF W v q 2 := by
  refine ⟨?_⟩
  rcases h.out with ⟨e, h1, h2, h3, h4⟩ | ⟨b, g, a, l, c, aa, ll, cc, e, h1, ⟨h2, h3, h4⟩, ⟨h5, h6⟩, h7⟩
  · exact .inl ⟨e, h1, h2, h3, Nat.le_refl _⟩
  · exact .inr ⟨b, g, a, l, c, aa, ll, cc, e, h1, ⟨h2, h3, Nat.le_trans (nf_len_le (k := 1) (by omega)) (by decide)⟩, ⟨h5, Nat.le_trans (nf_len_le (k := 1) (by omega)) (by decide)⟩, h7⟩
theorem mulB {a b : Int} {m n : Nat} (ha : a.natAbs ≤ m) (hb : b.natAbs ≤ n) : (a * b).natAbs ≤ m * n := by
  rw [Int.natAbs_mul]; exact Nat.mul_le_mul ha hb
theorem seg_small {p q : Rat × Rat} {x y x' y' : Int} (hp : p = ((x : Rat), (y : Rat))) (hq : q = ((x' : Rat), (y' : Rat))) (hne : p ≠ q) (b1 : -8 ≤ x ∧ x ≤ 8) (b2 : -8 ≤ y ∧ y ≤ 8) (b3 : -8 ≤ x' ∧ x' ≤ 8) (b4 : -8 ≤ y' ∧ y' ≤ 8) :
    ((segG p q).a.natAbs ≤ 16 ∧ (segG p q).b.natAbs ≤ 16 ∧ (segG p q).c.natAbs ≤ 256) := by
  have hn := th_ne2 hne
  obtain ⟨A, B, C, e1, e2, e3, _⟩ := lnK_valid (c := thC p.1 p.2 q.1 q.2) hn
  have d1 : (segG p q).a = A := by show (lnK _ _ _ _).num = A; rw [← e1]; rfl
  have d2 : (segG p q).b = B := by show (lnK _ _ _ _).num = B; rw [← e2]; rfl
  have d3 : (segG p q).c = C := by show (lnK _ _ _ _).num = C; rw [← e3]; rfl
  rw [d1, d2, d3]
  have t1 : thA p.2 q.2 = ((y - y' : Int) : Rat) := by subst hp; subst hq; unfold thA; rw [Rat.intCast_sub]; grind
  have t2 : q.1 - p.1 = ((x' - x : Int) : Rat) := by subst hp; subst hq; rw [Rat.intCast_sub]
  have t3 : thC p.1 p.2 q.1 q.2 = ((x * (y' - y) - y * (x' - x) : Int) : Rat) := by subst hp; subst hq; unfold thC; rw [Rat.intCast_sub, Rat.intCast_mul, Rat.intCast_mul, Rat.intCast_sub, Rat.intCast_sub]; grind
  have hG := lnG_pos (thC p.1 p.2 q.1 q.2) hn
  rw [t1, t2, t3] at e1 e2 e3 hG; unfold lnK at e1 e2 e3; rw [lnG_int] at e1 e2 e3 hG
  generalize gcd3 (y - y') (x' - x) (x * (y' - y) - y * (x' - x)) = G at *
  have hG1 : 1 ≤ G := by
    have : (0 : Int) < (G : Int) := Rat.intCast_pos.1 hG
    omega
  have hi := Rat.mul_inv_cancel _ (Rat.ne_of_gt hG)
  have c1 : A * (G : Int) = y - y' := by
    have : ((A * (G : Int) : Int) : Rat) = ((y - y' : Int) : Rat) := by rw [Rat.intCast_mul, e1]; grind
    exact_mod_cast this
  have c2 : B * (G : Int) = x' - x := by
    have : ((B * (G : Int) : Int) : Rat) = ((x' - x : Int) : Rat) := by rw [Rat.intCast_mul, e2]; grind
    exact_mod_cast this
  have c3 : C * (G : Int) = x * (y' - y) - y * (x' - x) := by
    have : ((C * (G : Int) : Int) : Rat) = ((x * (y' - y) - y * (x' - x) : Int) : Rat) := by rw [Rat.intCast_mul, e3]; grind
    exact_mod_cast this
  have ab : ∀ {z u : Int}, z * (G : Int) = u → z.natAbs ≤ u.natAbs := fun {z u} e => by
    rw [← e, Int.natAbs_mul, Int.natAbs_natCast]
    have := Nat.mul_le_mul_left z.natAbs hG1
    omega
  have m1 := mulB (a := x) (b := y' - y) (m := 8) (n := 16) (by omega) (by omega)
  have m2 := mulB (a := y) (b := x' - x) (m := 8) (n := 16) (by omega) (by omega)
  have q1 := ab c1
  have q2 := ab c2
  have q3 := ab c3
  exact ⟨by omega, by omega, by omega⟩
theorem par_small {a b x y : Int} (h : ¬ (a = 0 ∧ b = 0)) (ha : a.natAbs ≤ 16) (hb : b.natAbs ≤ 16) (b1 : -8 ≤ x ∧ x ≤ 8) (b2 : -8 ≤ y ∧ y ≤ 8) : (parL (a : Rat) (b : Rat) (x : Rat) (y : Rat)).num.natAbs ≤ 256 ∧ (parL (a : Rat) (b : Rat) (x : Rat) (y : Rat)).den ≤ 512 := by
  have e : parL (a : Rat) (b : Rat) (x : Rat) (y : Rat) = ((b * x - a * y : Int) : Rat) / ((b * b + a * a : Int) : Rat) := by
    unfold parL; rw [Rat.intCast_sub, Rat.intCast_mul, Rat.intCast_mul, Rat.intCast_add, Rat.intCast_mul, Rat.intCast_mul]
    congr 1 <;> grind
  have hd : (b * b + a * a : Int) ≠ 0 := fun e0 => by
    have := sq_ne h
    refine this ?_
    have e2 : (a : Rat) * a + (b : Rat) * b = ((b * b + a * a : Int) : Rat) := by rw [Rat.intCast_add, Rat.intCast_mul, Rat.intCast_mul]; grind
    rw [e2, e0]; rfl
  rw [e]
  have hs := quo_small (n := b * x - a * y) hd
  have m1 := mulB (a := b) (b := x) (m := 16) (n := 8) hb (by omega)
  have m2 := mulB (a := a) (b := y) (m := 16) (n := 8) ha (by omega)
  have m3 := mulB (a := a) (b := a) (m := 16) (n := 16) ha ha
  have m4 := mulB (a := b) (b := b) (m := 16) (n := 16) hb hb
  exact ⟨Nat.le_trans hs.1 (by omega), Nat.le_trans hs.2 (by omega)⟩
structure SmG (f : FG) : Prop where
  a : f.a.natAbs ≤ 16
  b : f.b.natAbs ≤ 16
  c : f.c.natAbs ≤ 256
  lo : f.lo.num.natAbs ≤ 256 ∧ f.lo.den ≤ 512
  hi : f.hi.num.natAbs ≤ 256 ∧ f.hi.den ≤ 512
theorem edge_small {L : List (Rat × Rat)} (h : IntL L) (hR : RingOK L) {i : Nat} (hi : i < L.length) : SmG (edgeF L i) := by
  have hj : (i + 1) % L.length < L.length := Nat.mod_lt _ (by omega)
  obtain ⟨x, y, e1, b1, b2⟩ := h i hi; obtain ⟨x', y', e2, b3, b4⟩ := h _ hj
  have hne := hR.edge i hi
  obtain ⟨s1, s2, s3⟩ := seg_small e1 e2 hne b1 b2 b3 b4
  have hv := (segG_v hne).v.1
  refine ⟨s1, s2, s3, ?_, ?_⟩
  · show (parL ((segG (pg L i) (pg L ((i + 1) % L.length))).a : Rat) ((segG (pg L i) (pg L ((i + 1) % L.length))).b : Rat) (pg L i).1 (pg L i).2).num.natAbs ≤ 256 ∧ (parL ((segG (pg L i) (pg L ((i + 1) % L.length))).a : Rat) ((segG (pg L i) (pg L ((i + 1) % L.length))).b : Rat) (pg L i).1 (pg L i).2).den ≤ 512
    have := par_small hv s1 s2 b1 b2
    rw [e1] at this ⊢; exact this
  · show (parL ((segG (pg L i) (pg L ((i + 1) % L.length))).a : Rat) ((segG (pg L i) (pg L ((i + 1) % L.length))).b : Rat) (pg L ((i + 1) % L.length)).1 (pg L ((i + 1) % L.length)).2).num.natAbs ≤ 256 ∧ (parL ((segG (pg L i) (pg L ((i + 1) % L.length))).a : Rat) ((segG (pg L i) (pg L ((i + 1) % L.length))).b : Rat) (pg L ((i + 1) % L.length)).1 (pg L ((i + 1) % L.length)).2).den ≤ 512
    have := par_small hv s1 s2 b3 b4
    rw [e2] at this ⊢; exact this
theorem edges_len (L : List (Rat × Rat)) : (edgesL L).length = L.length := by simp [edgesL]
theorem edges_at {L : List (Rat × Rat)} {i : Nat} (h : i < L.length) : fg (edgesL L) i = edgeF L i := by
  rw [fg_get (by rw [edges_len]; exact h)]; simp [edgesL]
theorem FsG.tight {W : World} {V : List GV} {L : List (Rat × Rat)} {k : Nat} (h : FsG W V (edgesL L) k) (hI : IntL L) (hR : RingOK L) : FsG W V (edgesL L) 2 := by
  have hl : V.length = L.length := h.len.trans (edges_len L)
  have hs : ∀ i, i < V.length → SmG (fg (edgesL L) i) := fun i hi => by rw [edges_at (by omega)]; exact edge_small hI hR (by omega)
  have hz : ∀ z : Int, ((z : Rat)).num = z ∧ ((z : Rat)).den = 1 := fun z => ⟨rfl, rfl⟩
  refine ⟨h.len, fun i hi => (h.x i hi).tight ?_ ?_, fun i hi => (h.y i hi).tight ?_ ?_, fun i hi => (h.z i hi).tight ?_ ?_, fun i hi => (h.u i hi).tight ?_ ?_, fun i hi => (h.v i hi).tight ?_ ?_⟩
  all_goals
    have s := hs i hi
    have s1 := s.a
    have s2 := s.b
    have s3 := s.c
    have s4 := s.lo
    have s5 := s.hi
    first
      | (rw [(hz _).1]; omega)
      | (rw [(hz _).2]; omega)
      | omega
end
section
def AdjP (L : List (Rat × Rat)) (i k : Nat) (p : Rat × Rat) : Prop := (i = k + 1 ∧ p = pg L i) ∨ (i + 1 = L.length ∧ k = 0 ∧ p = pg L 0)
def PairP (L : List (Rat × Rat)) (i k : Nat) : Prop := ¬ OvP (edgeF L i) (edgeF L k) ∧ ∀ p, MtP (edgeF L i) (edgeF L k) p → AdjP L i k p
theorem simple_iff {L : List (Rat × Rat)} : SimpleP L ↔ ∀ i k, i < L.length → k < i → PairP L i k := Iff.rfl
theorem RingOK.len3 {L : List (Rat × Rat)} (h : RingOK L) : 3 ≤ L.length := Nat.le_trans h.three (dsc_le L _)
structure MtO (f g : FG) (x y : Rat) (one : Bool) : Prop where
  yes : one = true → MtP f g (x, y)
  no : one = false → x = 0 ∧ y = 0 ∧ ∀ p, ¬ MtP f g p
theorem mtO_ex (f g : FG) : ∃ x y one, MtO f g x y one := by
  by_cases h : ∃ p, MtP f g p
  · obtain ⟨⟨x, y⟩, hm⟩ := h
    exact ⟨x, y, true, fun _ => hm, fun e => by cases e⟩
  · exact ⟨0, 0, false, fun e => (by cases e), fun _ => ⟨rfl, rfl, fun p hp => h ⟨p, hp⟩⟩⟩
theorem ovB_ex (f g : FG) : ∃ v : Bool, OvP f g ↔ v = true := by
  by_cases h : OvP f g
  · exact ⟨true, fun _ => rfl, fun _ => h⟩
  · exact ⟨false, fun e => absurd e h, fun e => by cases e⟩
end
section
theorem CZ.tg2 {W : World} {v : Value} {z : Int} {k : Nat} (h : CZ W v z k) (b : z.natAbs < 4294967296) : CZ W v z 2 := by
  obtain ⟨g, a, l, c, e, h1, h2⟩ := h.out; exact ⟨g, a, l, c, e, h1, h2.1, Nat.le_trans (nf_len_le (k := 1) (by omega)) (by decide)⟩
theorem CQ.tg2 {W : World} {v : Value} {q : Rat} {k : Nat} (h : CQ W v q k) (b1 : q.num.natAbs < 4294967296) (b2 : q.den < 4294967296) : CQ W v q 2 := by
  obtain ⟨g, a, l, c, aa, ll, cc, e, ⟨h1, h2⟩, h3⟩ := h.out
  refine ⟨g, a, l, c, aa, ll, cc, e, ⟨h1, h2.1, Nat.le_trans (nf_len_le (k := 1) (by omega)) (by decide)⟩, h3.1, Nat.le_trans (nf_len_le (k := 1) ?_) (by decide)⟩
  split
  · decide
  · omega
theorem FsK.tight {W : World} {V : List HV} {L : List (Rat × Rat)} {k : Nat} (h : FsK W V (edgesL L) k) (hI : IntL L) (hR : RingOK L) : FsK W V (edgesL L) 2 := by
  have hl : V.length = L.length := h.len.trans (edges_len L)
  have hs : ∀ i, i < V.length → SmG (fg (edgesL L) i) := fun i hi => by rw [edges_at (by omega)]; exact edge_small hI hR (by omega)
  refine ⟨h.len, fun i hi => (h.x i hi).tg2 ?_, fun i hi => (h.y i hi).tg2 ?_, fun i hi => (h.z i hi).tg2 ?_, fun i hi => (h.u i hi).tg2 ?_ ?_, fun i hi => (h.v i hi).tg2 ?_ ?_⟩
  all_goals
    have s := hs i hi
    have s1 := s.a
    have s2 := s.b
    have s3 := s.c
    have s4 := s.lo
    have s5 := s.hi
    omega
end
end Go.Proofs.YtdlnoeegboapkaaGreatDoor
