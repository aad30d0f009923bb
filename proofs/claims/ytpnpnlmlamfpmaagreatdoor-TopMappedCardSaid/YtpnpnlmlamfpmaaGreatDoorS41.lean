import Derived.Test.YtpnpnlmlamfpmaaGreatDoorS35
import Derived.Test.YtpnpnlmlamfpmaaGreatDoorS40
namespace Go.Proofs.YtpnpnlmlamfpmaaGreatDoor
open Go.RowKit
set_option linter.unusedSimpArgs false
set_option linter.unusedVariables false
set_option maxRecDepth 100000
section
theorem Pm {n d : Int} (hd : d ≠ 0) : ((n : Rat) / (d : Rat)).num.natAbs ≤ n.natAbs ∧ ((n : Rat) / (d : Rat)).den ≤ d.natAbs := by
 have hd' : (d : Rat) ≠ 0 := fun e => hd (by exact_mod_cast e)
 have hi := Rat.mul_inv_cancel (d : Rat) hd'
 rw [Rat.div_def]
 generalize hq : (n : Rat) * (d : Rat)⁻¹ = q
 have h1 : q * (d : Rat) = n := by rw [← hq]; grind
 have h2 := Wj q
 have h3 : q.num * d = n * (q.den : Int) := by
  have : ((q.num * d : Int) : Rat) = ((n * (q.den : Int) : Int) : Rat) := by
   rw [Rat.intCast_mul, Rat.intCast_mul, ← h2, ← h1]; grind
  exact_mod_cast this
 have hc := q.reduced
 have h4 : q.num.natAbs * d.natAbs = n.natAbs * q.den := by
  have := congrArg Int.natAbs h3
  rw [Int.natAbs_mul, Int.natAbs_mul, Int.natAbs_natCast] at this; exact this
 constructor
 ·by_cases h0 : n.natAbs = 0
  ·rw [h0, Nat.zero_mul] at h4
   rcases Nat.mul_eq_zero.1 h4 with e | e <;> omega
  ·exact Nat.le_of_dvd (by omega) (hc.dvd_of_dvd_mul_right ⟨d.natAbs, h4.symm⟩)
 ·exact Nat.le_of_dvd (by omega) (hc.symm.dvd_of_dvd_mul_left ⟨n.natAbs, by rw [h4, Nat.mul_comm]⟩)
theorem CF.tight {W : World} {v : Value} {q : Rat} {k : Nat} (h : CF W v q k) (b1 : q.num.natAbs < 4294967296) (b2 : q.den < 4294967296) : CF W v q 2 := by
 refine ⟨?_⟩
 rcases h.out with ⟨e, h1, h2, h3, h4⟩ | ⟨b, g, a, l, c, aa, ll, cc, e, h1, ⟨h2, h3, h4⟩, ⟨h5, h6⟩, h7⟩
 ·exact .inl ⟨e, h1, h2, h3, Nat.le_refl _⟩
 ·exact .inr ⟨b, g, a, l, c, aa, ll, cc, e, h1, ⟨h2, h3, Nat.le_trans (Bi (k := 1) (by omega)) (by decide)⟩, ⟨h5, Nat.le_trans (Bi (k := 1) (by omega)) (by decide)⟩, h7⟩
theorem B5 {a b : Int} {m n : Nat} (ha : a.natAbs ≤ m) (hb : b.natAbs ≤ n) : (a * b).natAbs ≤ m * n := by
 rw [Int.natAbs_mul]; exact Nat.mul_le_mul ha hb
variable {x y : Int}
theorem Qhb {p q : Rat × Rat} {x' y' : Int} (hp : p = ((x : Rat), (y : Rat))) (hq : q = ((x' : Rat), (y' : Rat))) (hne : p ≠ q) (b1 : -8 ≤ x ∧ x ≤ 8) (b2 : -8 ≤ y ∧ y ≤ 8) (b3 : -8 ≤ x' ∧ x' ≤ 8) (b4 : -8 ≤ y' ∧ y' ≤ 8) :
  ((Ag p q).a.natAbs ≤ 16 ∧ (Ag p q).b.natAbs ≤ 16 ∧ (Ag p q).c.natAbs ≤ 256) := by
 have hn := J9 hne
 obtain ⟨A, B, C, e1, e2, e3, _⟩ := Ju (c := thC p.1 p.2 q.1 q.2) hn
 have d1 : (Ag p q).a = A := by show (lnK _ _ _ _).num = A; rw [← e1]; rfl
 have d2 : (Ag p q).b = B := by show (lnK _ _ _ _).num = B; rw [← e2]; rfl
 have d3 : (Ag p q).c = C := by show (lnK _ _ _ _).num = C; rw [← e3]; rfl
 rw [d1, d2, d3]
 have t1 : thA p.2 q.2 = ((y - y' : Int) : Rat) := by subst hp; subst hq; unfold thA; rw [Rat.intCast_sub]; grind
 have t2 : q.1 - p.1 = ((x' - x : Int) : Rat) := by subst hp; subst hq; rw [Rat.intCast_sub]
 have t3 : thC p.1 p.2 q.1 q.2 = ((x * (y' - y) - y * (x' - x) : Int) : Rat) := by subst hp; subst hq; unfold thC; rw [Rat.intCast_sub, Rat.intCast_mul, Rat.intCast_mul, Rat.intCast_sub, Rat.intCast_sub]; grind
 have hG := Me (thC p.1 p.2 q.1 q.2) hn
 rw [t1, t2, t3] at e1 e2 e3 hG; unfold lnK at e1 e2 e3; rw [Py] at e1 e2 e3 hG
 generalize A8 (y - y') (x' - x) (x * (y' - y) - y * (x' - x)) = G at *
 have hG1 : 1 ≤ G := by
  have : (0 : Int) < (G : Int) := Rat.intCast_pos.1 hG
  omega
 have hi := Rat.mul_inv_cancel _ (Rat.ne_of_gt hG)
 have c1 : A * (G : Int) = y - y' := by
  have : ((A * (G : Int) : Int) : Rat) = ((y - y' : Int) : Rat) := by rw [Rat.intCast_mul, e1]; grind
  exact_mod_cast this
 have c2 : B * (G : Int) = x' - x := by
  have : ((B * (G : Int) : Int) : Rat) = ((x' - x : Int) : Rat) := by rw [Rat.intCast_mul, e2]; grind
  exact_mod_cast this
 have c3 : C * (G : Int) = x * (y' - y) - y * (x' - x) := by
  have : ((C * (G : Int) : Int) : Rat) = ((x * (y' - y) - y * (x' - x) : Int) : Rat) := by rw [Rat.intCast_mul, e3]; grind
  exact_mod_cast this
 have ab : ∀ {z u : Int}, z * (G : Int) = u → z.natAbs ≤ u.natAbs := fun {z u} e => by
  rw [← e, Int.natAbs_mul, Int.natAbs_natCast]
  have := Nat.mul_le_mul_left z.natAbs hG1
  omega
 have m1 := B5 (a := x) (b := y' - y) (m := 8) (n := 16) (by omega) (by omega)
 have m2 := B5 (a := y) (b := x' - x) (m := 8) (n := 16) (by omega) (by omega)
 have q1 := ab c1
 have q2 := ab c2
 have q3 := ab c3
 exact ⟨by omega, by omega, by omega⟩
theorem Xj {a b : Int} (h : ¬ (a = 0 ∧ b = 0)) (ha : a.natAbs ≤ 16) (hb : b.natAbs ≤ 16) (b1 : -8 ≤ x ∧ x ≤ 8) (b2 : -8 ≤ y ∧ y ≤ 8) : (Bn (a : Rat) (b : Rat) (x : Rat) (y : Rat)).num.natAbs ≤ 256 ∧ (Bn (a : Rat) (b : Rat) (x : Rat) (y : Rat)).den ≤ 512 := by
 have e : Bn (a : Rat) (b : Rat) (x : Rat) (y : Rat) = ((b * x - a * y : Int) : Rat) / ((b * b + a * a : Int) : Rat) := by
  unfold Bn; rw [Rat.intCast_sub, Rat.intCast_mul, Rat.intCast_mul, Rat.intCast_add, Rat.intCast_mul, Rat.intCast_mul]
  congr 1 <;> grind
 have hd : (b * b + a * a : Int) ≠ 0 := fun e0 => by
  have := Kg h
  refine this ?_
  have e2 : (a : Rat) * a + (b : Rat) * b = ((b * b + a * a : Int) : Rat) := by rw [Rat.intCast_add, Rat.intCast_mul, Rat.intCast_mul]; grind
  rw [e2, e0]; rfl
 rw [e]
 have hs := Pm (n := b * x - a * y) hd
 have m1 := B5 (a := b) (b := x) (m := 16) (n := 8) hb (by omega)
 have m2 := B5 (a := a) (b := y) (m := 16) (n := 8) ha (by omega)
 have m3 := B5 (a := a) (b := a) (m := 16) (n := 16) ha ha
 have m4 := B5 (a := b) (b := b) (m := 16) (n := 16) hb hb
 exact ⟨Nat.le_trans hs.1 (by omega), Nat.le_trans hs.2 (by omega)⟩
structure SmG (f : FG) : Prop where
 a : f.a.natAbs ≤ 16
 b : f.b.natAbs ≤ 16
 c : f.c.natAbs ≤ 256
 lo : f.lo.num.natAbs ≤ 256 ∧ f.lo.den ≤ 512
 hi : f.hi.num.natAbs ≤ 256 ∧ f.hi.den ≤ 512
variable {L : List (Rat × Rat)} {i : Nat}
theorem Qjj (h : Cr L) (hR : RingOK L) (hi : i < L.length) : SmG (Jb L i) := by
 have hj : (i + 1) % L.length < L.length := Nat.mod_lt _ (by omega)
 obtain ⟨x, y, e1, b1, b2⟩ := h i hi; obtain ⟨x', y', e2, b3, b4⟩ := h _ hj
 have hne := hR.edge i hi
 obtain ⟨s1, s2, s3⟩ := Qhb e1 e2 hne b1 b2 b3 b4
 have hv := (G0 hne).v.1
 refine ⟨s1, s2, s3, ?_, ?_⟩
 ·show (Bn ((Ag (pg L i) (pg L ((i + 1) % L.length))).a : Rat) ((Ag (pg L i) (pg L ((i + 1) % L.length))).b : Rat) (pg L i).1 (pg L i).2).num.natAbs ≤ 256 ∧ (Bn ((Ag (pg L i) (pg L ((i + 1) % L.length))).a : Rat) ((Ag (pg L i) (pg L ((i + 1) % L.length))).b : Rat) (pg L i).1 (pg L i).2).den ≤ 512
  have := Xj hv s1 s2 b1 b2
  rw [e1] at this ⊢; exact this
 ·show (Bn ((Ag (pg L i) (pg L ((i + 1) % L.length))).a : Rat) ((Ag (pg L i) (pg L ((i + 1) % L.length))).b : Rat) (pg L ((i + 1) % L.length)).1 (pg L ((i + 1) % L.length)).2).num.natAbs ≤ 256 ∧ (Bn ((Ag (pg L i) (pg L ((i + 1) % L.length))).a : Rat) ((Ag (pg L i) (pg L ((i + 1) % L.length))).b : Rat) (pg L ((i + 1) % L.length)).1 (pg L ((i + 1) % L.length)).2).den ≤ 512
  have := Xj hv s1 s2 b3 b4
  rw [e2] at this ⊢; exact this
theorem I5 (L : List (Rat × Rat)) : (Bu L).length = L.length := by simp [Bu]
theorem N8 (h : i < L.length) : fg (Bu L) i = Jb L i := by
 rw [Hl (by rw [I5]; exact h)]; simp [Bu]
end
section
open Go.RowKit Cel
def Six (b : Int) (q : Rat) : Prop := ∃ z : Int, q = (z : Rat) * ((6 : Int) : Rat)⁻¹ ∧ -b ≤ z ∧ z ≤ b
theorem Jw : ((6 : Int) : Rat) * ((6 : Int) : Rat)⁻¹ = 1 := Rat.mul_inv_cancel _ (by decide)
theorem Qcx {z : Int} : ((z : Rat) * ((6 : Int) : Rat)⁻¹).num.natAbs ≤ z.natAbs ∧ ((z : Rat) * ((6 : Int) : Rat)⁻¹).den ≤ 6 := by
 rw [← Rat.div_def]; exact Pm (by decide)
def Hx (L : List (Rat × Rat)) : Prop := ∀ i, i < L.length → Six 512 (pg L i).1 ∧ Six 512 (pg L i).2
variable {q : Rat}
theorem CA.sm {W : World} {v : Value} {k : Nat} (h : CA W v q k) (b1 : q.num.natAbs < 4294967296) (b2 : q.den < 4294967296) : CA W v q 1 := by
 obtain ⟨g, a, l, c, aa, ll, cc, e, ⟨h1, h2⟩, h3⟩ := h.out; exact ⟨g, a, l, c, aa, ll, cc, e, ⟨h1, h2.1, Bi (k := 1) (by omega)⟩, h3.1, Bi (k := 1) (by omega)⟩
variable {A B a b c d e x y : Int}
theorem Six.sm (h : Six b q) (hb : b < 4294967296) : q.num.natAbs < 4294967296 ∧ q.den < 4294967296 := by
 obtain ⟨z, rfl, h1, h2⟩ := h
 have := Qcx (z := z)
 omega
theorem N5 (h : ¬ (a = 0 ∧ b = 0)) (hx : ((A8 a b c : Nat) : Int) ∣ x) : ∃ X : Int, lnK (x : Rat) (a : Rat) (b : Rat) (c : Rat) = (X : Rat) ∧ X.natAbs ≤ x.natAbs := by
 refine ⟨_, Kc h hx, ?_⟩
 have hp := P5 c h
 rw [I8 _ _ (by rw [← Int.natAbs_dvd_natAbs, Int.natAbs_natCast] at hx; exact hx)]; exact Nat.div_le_self _ _
theorem Pl {a b c t : Rat} {i j k : Int} (ht : 0 < t) (h : ¬ (a = 0 ∧ b = 0)) (ea : a * t = (i : Rat)) (eb : b * t = (j : Rat)) (ec : c * t = (k : Rat)) : ∃ A B C : Int, lnK a a b c = (A : Rat) ∧ lnK b a b c = (B : Rat) ∧ lnK c a b c = (C : Rat) ∧ A.natAbs ≤ i.natAbs ∧ B.natAbs ≤ j.natAbs ∧ C.natAbs ≤ k.natAbs := by
 have ht0 : t ≠ 0 := Ne.symm (Rat.ne_of_lt ht)
 have h' : ¬ (i = 0 ∧ j = 0) := fun ⟨u1, u2⟩ => h ⟨by
  rw [u1] at ea; exact (Rat.mul_eq_zero.1 ea).resolve_right ht0, by
  rw [u2] at eb; exact (Rat.mul_eq_zero.1 eb).resolve_right ht0⟩
 obtain ⟨d1, d2, d3⟩ := Qr i j k; obtain ⟨A, e1, b1⟩ := N5 h' d1; obtain ⟨B, e2, b2⟩ := N5 h' d2; obtain ⟨C, e3, b3⟩ := N5 h' d3
 refine ⟨A, B, C, ?_, ?_, ?_, b1, b2, b3⟩
 ·rw [← Hr a a b c ht, ea, eb, ec]; exact e1
 ·rw [← Hr b a b c ht, ea, eb, ec]; exact e2
 ·rw [← Hr c a b c ht, ea, eb, ec]; exact e3
theorem Tu {p q : Rat × Rat} {x' y' : Int} (hp : p = ((x : Rat) * ((6 : Int) : Rat)⁻¹, (y : Rat) * ((6 : Int) : Rat)⁻¹)) (hq : q = ((x' : Rat) * ((6 : Int) : Rat)⁻¹, (y' : Rat) * ((6 : Int) : Rat)⁻¹)) (hne : p ≠ q) (b1 : -512 ≤ x ∧ x ≤ 512) (b2 : -512 ≤ y ∧ y ≤ 512) (b3 : -512 ≤ x' ∧ x' ≤ 512) (b4 : -512 ≤ y' ∧ y' ≤ 512) :
  ((Ag p q).a.natAbs ≤ 8192 ∧ (Ag p q).b.natAbs ≤ 8192 ∧ (Ag p q).c.natAbs ≤ 2000000) := by
 have hn := J9 hne
 have h6 := Jw
 have ht : (0 : Rat) < ((6 : Int) : Rat) * ((6 : Int) : Rat) := by decide +kernel
 have t1 : thA p.2 q.2 * (((6 : Int) : Rat) * ((6 : Int) : Rat)) = ((6 * (y - y') : Int) : Rat) := by
  subst hp; subst hq; unfold thA; rw [Rat.intCast_mul, Rat.intCast_sub]; generalize ((6 : Int) : Rat)⁻¹ = s at *; grind
 have t2 : (q.1 - p.1) * (((6 : Int) : Rat) * ((6 : Int) : Rat)) = ((6 * (x' - x) : Int) : Rat) := by
  subst hp; subst hq; rw [Rat.intCast_mul, Rat.intCast_sub]; generalize ((6 : Int) : Rat)⁻¹ = s at *; grind
 have t3 : thC p.1 p.2 q.1 q.2 * (((6 : Int) : Rat) * ((6 : Int) : Rat)) = ((x * (y' - y) - y * (x' - x) : Int) : Rat) := by
  subst hp; subst hq; unfold thC; rw [Rat.intCast_sub, Rat.intCast_mul, Rat.intCast_mul, Rat.intCast_sub, Rat.intCast_sub]; generalize ((6 : Int) : Rat)⁻¹ = s at *; grind
 obtain ⟨A, B, C, e1, e2, e3, q1, q2, q3⟩ := Pl ht hn t1 t2 t3
 have d1 : (Ag p q).a = A := by show (lnK _ _ _ _).num = A; rw [e1]; rfl
 have d2 : (Ag p q).b = B := by show (lnK _ _ _ _).num = B; rw [e2]; rfl
 have d3 : (Ag p q).c = C := by show (lnK _ _ _ _).num = C; rw [e3]; rfl
 rw [d1, d2, d3]
 have m1 := B5 (a := x) (b := y' - y) (m := 512) (n := 1024) (by omega) (by omega)
 have m2 := B5 (a := y) (b := x' - x) (m := 512) (n := 1024) (by omega) (by omega)
 exact ⟨by omega, by omega, by omega⟩
theorem Wp (h : ¬ (a = 0 ∧ b = 0)) (ha : a.natAbs ≤ 8192) (hb : b.natAbs ≤ 8192) (b1 : -512 ≤ x ∧ x ≤ 512) (b2 : -512 ≤ y ∧ y ≤ 512) : (Bn (a : Rat) (b : Rat) ((x : Rat) * ((6 : Int) : Rat)⁻¹) ((y : Rat) * ((6 : Int) : Rat)⁻¹)).num.natAbs < 4294967296 ∧ (Bn (a : Rat) (b : Rat) ((x : Rat) * ((6 : Int) : Rat)⁻¹) ((y : Rat) * ((6 : Int) : Rat)⁻¹)).den < 4294967296 := by
 have hd : (6 * (b * b + a * a) : Int) ≠ 0 := fun e0 => by
  have := Kg h
  refine this ?_
  have e2 : (a : Rat) * a + (b : Rat) * b = ((b * b + a * a : Int) : Rat) := by rw [Rat.intCast_add, Rat.intCast_mul, Rat.intCast_mul]; grind
  rw [e2, show b * b + a * a = 0 by omega]; rfl
 have e : Bn (a : Rat) (b : Rat) ((x : Rat) * ((6 : Int) : Rat)⁻¹) ((y : Rat) * ((6 : Int) : Rat)⁻¹) = ((b * x - a * y : Int) : Rat) / ((6 * (b * b + a * a) : Int) : Rat) := by
  unfold Bn; rw [Rat.intCast_sub, Rat.intCast_mul, Rat.intCast_mul, Rat.intCast_mul, Rat.intCast_add, Rat.intCast_mul, Rat.intCast_mul, Rat.div_def, Rat.div_def, Rat.inv_mul_rev]
  have e3 : (b : Rat) * (b : Rat) - -(a : Rat) * (a : Rat) = (b : Rat) * b + (a : Rat) * a := by grind
  generalize ((6 : Int) : Rat)⁻¹ = s
  grind
 rw [e]
 have hs := Pm (n := b * x - a * y) hd
 have m1 := B5 (a := b) (b := x) (m := 8192) (n := 512) hb (by omega)
 have m2 := B5 (a := a) (b := y) (m := 8192) (n := 512) ha (by omega)
 have m3 := B5 (a := a) (b := a) (m := 8192) (n := 8192) ha ha
 have m4 := B5 (a := b) (b := b) (m := 8192) (n := 8192) hb hb
 exact ⟨Nat.lt_of_le_of_lt hs.1 (by omega), Nat.lt_of_le_of_lt hs.2 (by omega)⟩
variable {L : List (Rat × Rat)}
theorem Hx.tight (h : Hx L) (hR : RingOK L) : Sk L := by
 intro W V k hF
 have hl : V.length = L.length := hF.len.trans (I5 L)
 have hz : ∀ z : Int, ((z : Rat)).num = z ∧ ((z : Rat)).den = 1 := fun z => ⟨rfl, rfl⟩
 have key : ∀ i, i < V.length → ((fg (Bu L) i).a.natAbs ≤ 8192 ∧ (fg (Bu L) i).b.natAbs ≤ 8192 ∧ (fg (Bu L) i).c.natAbs ≤ 2000000) ∧ ((fg (Bu L) i).lo.num.natAbs < 4294967296 ∧ (fg (Bu L) i).lo.den < 4294967296) ∧ ((fg (Bu L) i).hi.num.natAbs < 4294967296 ∧ (fg (Bu L) i).hi.den < 4294967296) := by
  intro i hi; have hi' : i < L.length := (by omega); rw [N8 hi']
  have hj : (i + 1) % L.length < L.length := Nat.mod_lt _ (by omega)
  obtain ⟨⟨x, e1, b1⟩, ⟨y, e2, b2⟩⟩ := h i hi'; obtain ⟨⟨x', e3, b3⟩, ⟨y', e4, b4⟩⟩ := h _ hj
  have hne := hR.edge i hi'
  obtain ⟨s1, s2, s3⟩ := Tu (Prod.ext e1 e2) (Prod.ext e3 e4) hne b1 b2 b3 b4
  have hv := (G0 hne).v.1
  refine ⟨⟨s1, s2, s3⟩, ?_, ?_⟩
  ·show (Bn ((Ag (pg L i) (pg L ((i + 1) % L.length))).a : Rat) ((Ag (pg L i) (pg L ((i + 1) % L.length))).b : Rat) (pg L i).1 (pg L i).2).num.natAbs < 4294967296 ∧ (Bn ((Ag (pg L i) (pg L ((i + 1) % L.length))).a : Rat) ((Ag (pg L i) (pg L ((i + 1) % L.length))).b : Rat) (pg L i).1 (pg L i).2).den < 4294967296
   have := Wp hv s1 s2 b1 b2
   rw [← e1, ← e2] at this; exact this
  ·show (Bn ((Ag (pg L i) (pg L ((i + 1) % L.length))).a : Rat) ((Ag (pg L i) (pg L ((i + 1) % L.length))).b : Rat) (pg L ((i + 1) % L.length)).1 (pg L ((i + 1) % L.length)).2).num.natAbs < 4294967296 ∧ (Bn ((Ag (pg L i) (pg L ((i + 1) % L.length))).a : Rat) ((Ag (pg L i) (pg L ((i + 1) % L.length))).b : Rat) (pg L ((i + 1) % L.length)).1 (pg L ((i + 1) % L.length)).2).den < 4294967296
   have := Wp hv s1 s2 b3 b4
   rw [← e3, ← e4] at this; exact this
 refine ⟨hF.len, fun i hi => ((hF.x i hi).tight ?_ ?_).cast rfl (by decide), fun i hi => ((hF.y i hi).tight ?_ ?_).cast rfl (by decide), fun i hi => ((hF.z i hi).tight ?_ ?_).cast rfl (by decide), fun i hi => ((hF.u i hi).tight ?_ ?_).cast rfl (by decide), fun i hi => ((hF.v i hi).tight ?_ ?_).cast rfl (by decide)⟩
 all_goals
  obtain ⟨⟨s1, s2, s3⟩, s4, s5⟩ := key i hi
  first
   | (rw [(hz _).1]; omega)
   | (rw [(hz _).2]; omega)
   | omega
theorem Cr.six (h : Cr L) : Hx L := by
 intro i hi; obtain ⟨x, y, e, h1, h2⟩ := h i hi
 have h6 : ∀ z : Int, (z : Rat) = ((6 * z : Int) : Rat) * ((6 : Int) : Rat)⁻¹ := fun z => by
  have := Jw
  rw [Rat.intCast_mul]; generalize ((6 : Int) : Rat)⁻¹ = s at *; grind
 rw [e]
 exact ⟨⟨6 * x, h6 x, by omega, by omega⟩, ⟨6 * y, h6 y, by omega, by omega⟩⟩
def Kq (m : Aff) : Prop := Six 27 m.A ∧ Six 27 m.B ∧ Six 27 m.C ∧ Six 27 m.D ∧ Six 27 m.E ∧ Six 27 m.F
theorem Xa {a b c : Rat} (ha : Six 27 a) (hb : Six 27 b) (hc : Six 27 c) (hx : -8 ≤ x ∧ x ≤ 8) (hy : -8 ≤ y ∧ y ≤ 8) : Six 512 (a * (x : Rat) + b * (y : Rat) + c) := by
 obtain ⟨i, rfl, i1, i2⟩ := ha; obtain ⟨j, rfl, j1, j2⟩ := hb; obtain ⟨k, rfl, k1, k2⟩ := hc
 have m1 := B5 (a := i) (b := x) (m := 27) (n := 8) (by omega) (by omega)
 have m2 := B5 (a := j) (b := y) (m := 27) (n := 8) (by omega) (by omega)
 refine ⟨i * x + j * y + k, ?_, by omega, by omega⟩
 rw [Rat.intCast_add, Rat.intCast_add, Rat.intCast_mul, Rat.intCast_mul]
 grind
variable {m : Aff}
theorem Cr.to (h : Cr L) (hm : Kq m) : Hx (L.map m.to) := by
 intro i hi; rw [List.length_map] at hi; obtain ⟨x, y, e, h1, h2⟩ := h i hi; rw [Mj hi, e]; obtain ⟨a, b, c, d, e', f⟩ := hm; exact ⟨Xa a b c h1 h2, Xa d e' f h1 h2⟩
def SmQ (l : LQ) : Prop := ∃ A B C : Int, LnV A B C ∧ l = ⟨(A : Rat), (B : Rat), (C : Rat)⟩ ∧ A.natAbs ≤ 16 ∧ B.natAbs ≤ 16 ∧ C.natAbs ≤ 256
def ShL (l : LQ) : Prop := ∃ A B C : Int, LnV A B C ∧ l = ⟨(A : Rat), (B : Rat), (C : Rat)⟩ ∧ A.natAbs < 4294967296 ∧ B.natAbs < 4294967296 ∧ C.natAbs < 4294967296
variable {l : LQ}
theorem SmQ.sh (h : SmQ l) : ShL l := by
 obtain ⟨A, B, C, h1, h2, h3, h4, h5⟩ := h
 exact ⟨A, B, C, h1, h2, by omega, by omega, by omega⟩
theorem ShL.prim (h : ShL l) : Ih l := by
 obtain ⟨A, B, C, h1, h2, _⟩ := h; exact ⟨A, B, C, h1, h2⟩
theorem Vh (b1 : A.natAbs ≤ 16) (b2 : B.natAbs ≤ 16) (he : e.natAbs ≤ 27) (hd : d.natAbs ≤ 27) : (6 * (A * e - B * d)).natAbs < 4294967296 := by
 have n1 := B5 b1 he
 have n2 := B5 b2 hd
 omega
theorem Qfu {C f : Int} (b1 : A.natAbs ≤ 16) (b2 : B.natAbs ≤ 16) (b3 : C.natAbs ≤ 256) (ha : a.natAbs ≤ 27) (hb : b.natAbs ≤ 27) (hc : c.natAbs ≤ 27) (hd : d.natAbs ≤ 27) (he : e.natAbs ≤ 27) (hf : f.natAbs ≤ 27) : (A * (b * f - e * c) + B * (d * c - a * f) + C * (a * e - d * b)).natAbs < 4294967296 := by
 have key : ∀ {p q r s : Int}, p.natAbs ≤ 27 → q.natAbs ≤ 27 → r.natAbs ≤ 27 → s.natAbs ≤ 27 → (p * q - r * s).natAbs ≤ 1458 := fun h1 h2 h3 h4 => by
  have m1 := B5 h1 h2
  have m2 := B5 h3 h4
  omega
 have j1 := B5 b1 (key hb hf he hc)
 have j2 := B5 b2 (key hd hc ha hf)
 have j3 := B5 b3 (key ha he hd hb)
 generalize A * (b * f - e * c) = x, B * (d * c - a * f) = y, C * (a * e - d * b) = z at *
 omega
theorem Qi8 (hd : m.det ≠ 0) (hm : Kq m) (hl : SmQ l) : ShL (Bb m l) := by
 obtain ⟨A, B, C, hv, rfl, b1, b2, b3⟩ := hl
 have hp := Nb (l := ⟨(A : Rat), (B : Rat), (C : Rat)⟩) hd (S6.ok _ ⟨A, B, C, hv, rfl⟩)
 obtain ⟨⟨a, ha, a1⟩, ⟨b, hb, a2⟩, ⟨c, hc, a3⟩, ⟨d, hd', a4⟩, ⟨e, he, a5⟩, ⟨f, hf, a6⟩⟩ := hm
 have h6 := Jw
 have hi := Rat.mul_inv_cancel _ hd
 have hdet : m.det = m.A * m.E - m.D * m.B := rfl
 have hdz : m.det * (((6 : Int) : Rat) * ((6 : Int) : Rat)) = ((a * e - d * b : Int) : Rat) := by
  rw [hdet, ha, hb, hd', he, Rat.intCast_sub, Rat.intCast_mul, Rat.intCast_mul]; generalize ((6 : Int) : Rat)⁻¹ = s at *; grind
 have p1 : E9 ⟨(A : Rat), (B : Rat), (C : Rat)⟩ m * (m.det * (((6 : Int) : Rat) * ((6 : Int) : Rat))) = ((6 * (A * e - B * d) : Int) : Rat) := by
  have : E9 ⟨(A : Rat), (B : Rat), (C : Rat)⟩ m * m.det = (A : Rat) * m.E - (B : Rat) * m.D := by unfold E9; grind
  rw [← Rat.mul_assoc, this, hd', he, Rat.intCast_mul, Rat.intCast_sub, Rat.intCast_mul, Rat.intCast_mul]; generalize ((6 : Int) : Rat)⁻¹ = s at *; grind
 have p2 : Ey ⟨(A : Rat), (B : Rat), (C : Rat)⟩ m * (m.det * (((6 : Int) : Rat) * ((6 : Int) : Rat))) = ((6 * (B * a - A * b) : Int) : Rat) := by
  have : Ey ⟨(A : Rat), (B : Rat), (C : Rat)⟩ m * m.det = (B : Rat) * m.A - (A : Rat) * m.B := by unfold Ey; grind
  rw [← Rat.mul_assoc, this, ha, hb, Rat.intCast_mul, Rat.intCast_sub, Rat.intCast_mul, Rat.intCast_mul]; generalize ((6 : Int) : Rat)⁻¹ = s at *; grind
 have p3 : Er ⟨(A : Rat), (B : Rat), (C : Rat)⟩ m * (m.det * (((6 : Int) : Rat) * ((6 : Int) : Rat))) = ((A * (b * f - e * c) + B * (d * c - a * f) + C * (a * e - d * b) : Int) : Rat) := by
  have : Er ⟨(A : Rat), (B : Rat), (C : Rat)⟩ m * m.det = (A : Rat) * (m.B * m.F - m.E * m.C) + (B : Rat) * (m.D * m.C - m.A * m.F) + (C : Rat) * (m.A * m.E - m.D * m.B) := by rw [← hdet]; unfold Er; grind
  rw [← Rat.mul_assoc, this, ha, hb, hc, hd', he, hf]; simp only [Rat.intCast_add, Rat.intCast_mul, Rat.intCast_sub]
  generalize ((6 : Int) : Rat)⁻¹ = s at *; grind
 have n1 := Vh (e := e) (d := d) b1 b2 (by omega) (by omega)
 have n2 := Vh (e := a) (d := b) b2 b1 (by omega) (by omega)
 have n3 := Qfu (a := a) (b := b) (c := c) (d := d) (e := e) (f := f) b1 b2 b3 (by omega) (by omega) (by omega) (by omega) (by omega) (by omega)
 have h36 : (0 : Rat) < ((6 : Int) : Rat) * ((6 : Int) : Rat) := by decide +kernel
 obtain ⟨X, Y, Z, hx, hxe⟩ := Xo hd (l := ⟨(A : Rat), (B : Rat), (C : Rat)⟩) (S6.ok _ ⟨A, B, C, hv, rfl⟩)
 have fin : ∀ {X' Y' Z' : Int}, Bb m ⟨(A : Rat), (B : Rat), (C : Rat)⟩ = ⟨(X' : Rat), (Y' : Rat), (Z' : Rat)⟩ → X'.natAbs < 4294967296 → Y'.natAbs < 4294967296 → Z'.natAbs < 4294967296 → ShL (Bb m ⟨(A : Rat), (B : Rat), (C : Rat)⟩) := by
  intro X' Y' Z' h1 h2 h3 h4
  have h5 := hxe.symm.trans h1
  simp only [LQ.mk.injEq, Rat.intCast_inj] at h5; obtain ⟨rfl, rfl, rfl⟩ := h5; exact ⟨X, Y, Z, hx, hxe, h2, h3, h4⟩
 rcases (by grind : m.det < 0 ∨ m.det = 0 ∨ 0 < m.det) with h | h | h
 ·have ht : 0 < -m.det * (((6 : Int) : Rat) * ((6 : Int) : Rat)) := Rat.mul_pos (by grind) h36
  have neg : ∀ {u : Rat} {z : Int}, u * (m.det * (((6 : Int) : Rat) * ((6 : Int) : Rat))) = (z : Rat) → u * (-m.det * (((6 : Int) : Rat) * ((6 : Int) : Rat))) = ((-z : Int) : Rat) := fun {u z} e => by rw [Rat.intCast_neg, ← e]; grind
  obtain ⟨X', Y', Z', e1, e2, e3, q1, q2, q3⟩ := Pl ht hp (neg p1) (neg p2) (neg p3); rw [Int.natAbs_neg] at q1 q2 q3
  exact fin (by unfold Bb; rw [e1, e2, e3]) (Nat.lt_of_le_of_lt q1 n1) (Nat.lt_of_le_of_lt q2 n2) (Nat.lt_of_le_of_lt q3 n3)
 ·exact absurd h hd
 ·have ht : 0 < m.det * (((6 : Int) : Rat) * ((6 : Int) : Rat)) := Rat.mul_pos h h36
  obtain ⟨X', Y', Z', e1, e2, e3, q1, q2, q3⟩ := Pl ht hp p1 p2 p3
  exact fin (by unfold Bb; rw [e1, e2, e3]) (Nat.lt_of_le_of_lt q1 n1) (Nat.lt_of_le_of_lt q2 n2) (Nat.lt_of_le_of_lt q3 n3)
variable {R : List (List (Rat × Rat))}
theorem Nv {fill : Int} (hR : ∀ L ∈ R, RingOK L) {P : LQ → Prop} (hP : ∀ e ∈ Aj R, P e.l) : ∀ l ∈ (Cg fill R).lines, P l := by
 intro l hl
 have hb := L5 (acc := fun p => Ba fill (Ao (Aj R) p)) (n := (Aj R).length) (C := []) (Ry hR)
 unfold Cg at hl; rw [Tr.restrict_eq S6 CellS.nil hb] at hl; exact L5 hP l (Tr.restr_lines l hl)
theorem Rt (hR : ∀ L ∈ R, RingOK L) (hI : ∀ L ∈ R, Cr L) : ∀ e ∈ Aj R, SmQ e.l := by
 intro e he; obtain ⟨L, hL, he⟩ := List.mem_flatMap.1 he; obtain ⟨f, hf, rfl⟩ := List.mem_map.1 he; obtain ⟨i, hi, rfl⟩ := List.getElem_of_mem hf; rw [I5] at hi
 have e0 := N8 (L := L) hi
 rw [Hl (by rw [I5]; exact hi)] at e0; rw [e0]
 have s := Qjj (hI L hL) (hR L hL) hi
 exact ⟨_, _, _, (G0 ((hR L hL).edge i hi)).v, rfl, s.a, s.b, s.c⟩
theorem Qd0 (hR : ∀ L ∈ R, RingOK L) (hI : ∀ L ∈ R, Hx L) : ∀ e ∈ Aj R, ShL e.l := by
 intro e he; obtain ⟨L, hL, he⟩ := List.mem_flatMap.1 he; obtain ⟨f, hf, rfl⟩ := List.mem_map.1 he; obtain ⟨i, hi, rfl⟩ := List.getElem_of_mem hf; rw [I5] at hi
 have e0 := N8 (L := L) hi
 rw [Hl (by rw [I5]; exact hi)] at e0; rw [e0]
 have hj : (i + 1) % L.length < L.length := Nat.mod_lt _ (by omega)
 obtain ⟨⟨x, e1, b1⟩, ⟨y, e2, b2⟩⟩ := hI L hL i hi; obtain ⟨⟨x', e3, b3⟩, ⟨y', e4, b4⟩⟩ := hI L hL _ hj
 have hne := (hR L hL).edge i hi
 obtain ⟨s1, s2, s3⟩ := Tu (Prod.ext e1 e2) (Prod.ext e3 e4) hne b1 b2 b3 b4
 exact ⟨_, _, _, (G0 hne).v, rfl, by show Int.natAbs (Ag _ _).a < _; omega, by show Int.natAbs (Ag _ _).b < _; omega, by show Int.natAbs (Ag _ _).c < _; omega⟩
end
section
set_option maxHeartbeats 4000000
set_option synthInstance.maxHeartbeats 1000000
set_option synthInstance.maxSize 100000
open Go.RowKit Cel
variable {R : List (List (Rat × Rat))} {U : List YV} {a ax ay bx by' : Option Addr} {aR : Addr} {c cx cy ex ey k kp lx ly mx my n : Nat} {gx : Bool} {w w0 w1 w2 : World} {x y : Rat}
theorem X7 {gy : Bool} [hs : Sl w (.slice a n c) U.length (Bt U) w0] [hp : RsA w U R k w1] [hR0 : Snt w 1 aR w2] [hx : CA w (.agg #[.bool gx, .slice ax lx cx, .slice bx mx ex]) x kp] [hy : CA w (.agg #[.bool gy, .slice ay ly cy, .slice by' my ey]) y kp] (b : k ≤ 8) (hU : U.length ≤ 256) (hR : ∀ L ∈ R, Rok L) (hE : (Aj R).length ≤ 15) (bp : kp ≤ 7000) (hr : Hid (Cf (Aj R) (x, y) = false)) :
  Calls Tryz.prog 18 #[.slice a n c, .agg #[.bool gx, .slice ax lx cx, .slice bx mx ex, .bool gy, .slice ay ly cy, .slice by' my ey]] w (fun e w' => e = .returned (.tuple #[.int .i64 (Ao (Aj R) (x, y)), .nilIface]) ∧ Below w.heap.size w w') := by
 obtain rfl := hs.len
 have hok : ∀ f ∈ Aj R, f.v.nl = false ∧ f.v.nh = false := fun f hf => (J5 (fun L h => (hR L h).ok) f hf).2
 go_enter Tryz.func18, Tryz.ntmps18
 go_wp2_with (first
  | (go_at_call 50; refine Wc (Wf (U := U) (by omega) hU hR hE) ?_; intro w5 _ a5 c5 V5 s5 p5; have hV5 : V5.length ≤ 15 := (by rw [p5.len]; exact hE))
  | (go_at_call 51; refine Au (K5 (by omega)) ?_; intro w6 _ nx dx px ny dy py i8 i9; have j8 := i8.cast rfl (show max kp kp + 2 ≤ 8000 by omega); have j9 := i9.cast rfl (show max kp kp + 2 ≤ 8000 by omega); clear i8 i9)
  | (go_at_call 52; refine Aa (onC (V := V5) (by omega) hok hr) ?_; intro w7 _)
  | (go_at_call 44; have j8' := CF.cast (W := w7) ii rfl (show 8000 ≤ 22600 by decide) (v := .agg #[.int .i64 nx, .int .i64 dx, .pointer px]); have j9' := CF.cast (W := w7) ii rfl (show 8000 ≤ 22600 by decide) (v := .agg #[.int .i64 ny, .int .i64 dy, .pointer py]); clear j8 j9; refine Aa (Qz (V := V5) (by omega) hok) ?_; intro w8 _))
 go_ret2; exact E.fin rfl
theorem Ye {gy : Bool} [hs : Sl w (.slice a n c) U.length (Bt U) w0] [hp : RsA w U R k w1] [hR0 : Snt w 1 aR w2] [hx : CA w (.agg #[.bool gx, .slice ax lx cx, .slice bx mx ex]) x kp] [hy : CA w (.agg #[.bool gy, .slice ay ly cy, .slice by' my ey]) y kp] (b : k ≤ 8) (hU : U.length ≤ 256) (hR : ∀ L ∈ R, Rok L) (hE : (Aj R).length ≤ 15) (bp : kp ≤ 7000) (hr : Hid (Cf (Aj R) (x, y) = true)) :
  Calls Tryz.prog 18 #[.slice a n c, .agg #[.bool gx, .slice ax lx cx, .slice bx mx ex, .bool gy, .slice ay ly cy, .slice by' my ey]] w (fun e w' => e = .returned (.tuple #[.int .i64 0, .iface 329 (.pointer (some aR))]) ∧ Below w.heap.size w w') := by
 obtain rfl := hs.len
 have hok : ∀ f ∈ Aj R, f.v.nl = false ∧ f.v.nh = false := fun f hf => (J5 (fun L h => (hR L h).ok) f hf).2
 go_enter Tryz.func18, Tryz.ntmps18
 go_wp2_with (first
  | (go_at_call 50; refine Wc (Wf (U := U) (by omega) hU hR hE) ?_; intro w5 _ a5 c5 V5 s5 p5; have hV5 : V5.length ≤ 15 := (by rw [p5.len]; exact hE))
  | (go_at_call 51; refine Au (K5 (by omega)) ?_; intro w6 _ nx dx px ny dy py i8 i9; have j8 := i8.cast rfl (show max kp kp + 2 ≤ 8000 by omega); have j9 := i9.cast rfl (show max kp kp + 2 ≤ 8000 by omega); clear i8 i9)
  | (go_at_call 52; refine Aa (onC (V := V5) (by omega) hok hr) ?_; intro w7 _)
  | (go_at_call 44; have j8' := CF.cast (W := w7) ii rfl (show 8000 ≤ 22600 by decide) (v := .agg #[.int .i64 nx, .int .i64 dx, .pointer px]); have j9' := CF.cast (W := w7) ii rfl (show 8000 ≤ 22600 by decide) (v := .agg #[.int .i64 ny, .int .i64 dy, .pointer py]); clear j8 j9; refine Aa (Qz (V := V5) (by omega) hok) ?_; intro w8 _))
 refine rgn [] [] fun hH => ?_; refine tk 0 hH ?_; refine tk 1 hH ?_; refine tk 2 hH (dn ?_); clear hH; go_wp2_with fail; go_ret2; exact E.fin rfl
end
end Go.Proofs.YtpnpnlmlamfpmaaGreatDoor
