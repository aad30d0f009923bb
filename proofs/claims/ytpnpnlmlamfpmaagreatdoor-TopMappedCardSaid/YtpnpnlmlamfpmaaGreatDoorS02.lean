import Derived.Test.YtpnpnlmlamfpmaaGreatDoorS00
import Derived.Test.YtpnpnlmlamfpmaaGreatDoorS01
namespace Go.Proofs.YtpnpnlmlamfpmaaGreatDoor
open Go.RowKit
set_option maxHeartbeats 40000000
set_option maxRecDepth 100000
set_option synthInstance.maxHeartbeats 1000000
set_option synthInstance.maxSize 100000
section
namespace Cel
deriving instance DecidableEq for Tr
structure IQ where
 lo : Rat
 hi : Rat
 nl : Bool
 nh : Bool
deriving DecidableEq
namespace IQ
def all : IQ := ⟨0, 0, true, true⟩
def none : IQ := ⟨0, 0, false, false⟩
def empty (v : IQ) : Bool := !v.nl && !v.nh && decide (v.hi ≤ v.lo)
def meet (v w : IQ) : IQ := ⟨if v.nl then w.lo else if w.nl then v.lo else if v.lo < w.lo then w.lo else v.lo, if v.nh then w.hi else if w.nh then v.hi else if w.hi < v.hi then w.hi else v.hi, v.nl && w.nl, v.nh && w.nh⟩
def sample (v : IQ) : Rat := if v.nl && v.nh then 0 else if v.nl then v.hi - 1 else if v.nh then v.lo + 1 else (v.lo + v.hi) / 2
def Ins (v : IQ) (t : Rat) : Prop := (v.nl = true ∨ v.lo < t) ∧ (v.nh = true ∨ t < v.hi)
def Has (v : IQ) (t : Rat) : Prop := (v.nl = true ∨ v.lo ≤ t) ∧ (v.nh = true ∨ t ≤ v.hi)
variable {v w : IQ}
theorem sample_ins (h : v.empty = false) : v.Ins v.sample := by
 obtain ⟨lo, hi, nl, nh⟩ := v; unfold empty at h; unfold Ins sample
 cases nl <;> cases nh <;> simp at h ⊢ <;> grind
theorem empty_iff : v.empty = false ↔ ∃ t, v.Ins t := by
 constructor
 ·exact fun h => ⟨_, sample_ins h⟩
 ·rintro ⟨t, h1, h2⟩
  obtain ⟨lo, hi, nl, nh⟩ := v; unfold empty
  cases nl <;> cases nh <;> simp at h1 h2 ⊢ <;> grind
variable {t : Rat}
theorem meet_ins : (v.meet w).Ins t ↔ v.Ins t ∧ w.Ins t := by
 obtain ⟨a, b, c, d⟩ := v; obtain ⟨e, f, g, h⟩ := w; unfold Ins meet
 cases c <;> cases d <;> cases g <;> cases h <;> simp <;> grind
theorem meet_has : (v.meet w).Has t ↔ v.Has t ∧ w.Has t := by
 obtain ⟨a, b, c, d⟩ := v; obtain ⟨e, f, g, h⟩ := w; unfold Has meet
 cases c <;> cases d <;> cases g <;> cases h <;> simp <;> grind
theorem Ins.has (h : v.Ins t) : v.Has t := by unfold Ins Has at *; grind
theorem ins_mid {s u : Rat} (hs : v.Ins s) (ht : v.Has t) (h0 : 0 < u) (h1 : u ≤ 1) : v.Ins (t + u * (s - t)) := by
 obtain ⟨lo, hi, nl, nh⟩ := v
 unfold Ins Has at *
 obtain ⟨a, b⟩ := hs; obtain ⟨c, d⟩ := ht; constructor
 ·cases nl
  ·right
   simp at a c
   have := mpos h0 (y := s - lo) (by grind)
   have := Rat.mul_nonneg (a := 1 - u) (b := t - lo) (by grind) (by grind)
   show lo < t + u * (s - t)
   grind
  ·left; rfl
 ·cases nh
  ·right
   simp at b d
   have := mpos h0 (y := hi - s) (by grind)
   have := Rat.mul_nonneg (a := 1 - u) (b := hi - t) (by grind) (by grind)
   show t + u * (s - t) < hi
   grind
  ·left; rfl
end IQ
namespace LQ
def base (l : LQ) : Rat × Rat := (l.a * (-l.c / (l.a * l.a + l.b * l.b)), l.b * (-l.c / (l.a * l.a + l.b * l.b)))
def at' (l : LQ) (t : Rat) : Rat × Rat := (l.a * (-l.c / (l.a * l.a + l.b * l.b)) + l.b * t, l.b * (-l.c / (l.a * l.a + l.b * l.b)) + -l.a * t)
def par (l : LQ) (p : Rat × Rat) : Rat := (l.b * p.1 + -l.a * p.2) / (l.b * l.b + -l.a * -l.a)
def kk (l m : LQ) : Rat := m.a * l.b + m.b * -l.a
def cc (l m : LQ) : Rat := m.val l.base
def cut (l : LQ) (v : IQ) (m : LQ) : IQ × Bool :=
 if l.kk m = 0 then (v, decide (0 < l.cc m))
 else if 0 < l.kk m then (v.meet ⟨-(l.cc m / l.kk m), 0, false, true⟩, !(v.meet ⟨-(l.cc m / l.kk m), 0, false, true⟩).empty)
 else (v.meet ⟨0, -(l.cc m / l.kk m), true, false⟩, !(v.meet ⟨0, -(l.cc m / l.kk m), true, false⟩).empty)
variable {l m : LQ}
theorem ok.ne (h : l.ok) : l.a * l.a + l.b * l.b ≠ 0 := by unfold LQ.ok at h; grind
variable {c k t : Rat}
theorem val_at : m.val (l.at' t) = l.cc m + t * l.kk m := by unfold cc LQ.val at' base kk; grind
theorem kk_self : l.kk l = 0 := by unfold kk; grind
theorem cc_self (h : l.ok) : l.cc l = 0 := by have := h.ne; unfold cc LQ.val base; grind
theorem on_at (h : l.ok) (t : Rat) : l.val (l.at' t) = 0 := by rw [val_at, cc_self h, kk_self]; grind
theorem at_par (h : l.ok) {p : Rat × Rat} (hp : l.val p = 0) : l.at' (l.par p) = p := by
 have := h.ne
 obtain ⟨x, y⟩ := p
 unfold LQ.val at hp
 unfold at' par; simp only [Prod.mk.injEq]
 simp only at hp
 have e : l.b * l.b + -l.a * -l.a = l.a * l.a + l.b * l.b := by grind
 rw [e]
 generalize hN : l.a * l.a + l.b * l.b = N at *
 have hi := Rat.mul_inv_cancel N this
 rw [Rat.div_def, Rat.div_def]
 generalize N⁻¹ = I at *
 have hc : -l.c = l.a * x + l.b * y := by grind
 rw [hc]; constructor
 ·have : l.a * ((l.a * x + l.b * y) * I) + l.b * ((l.b * x + -l.a * y) * I) = x * ((l.a * l.a + l.b * l.b) * I) := by grind
  rw [this, hN, hi]; grind
 ·have : l.b * ((l.a * x + l.b * y) * I) + -l.a * ((l.b * x + -l.a * y) * I) = y * ((l.a * l.a + l.b * l.b) * I) := by grind
  rw [this, hN, hi]; grind
theorem at_inj (h : l.ok) {s : Rat} (e : l.at' s = l.at' t) : s = t := by
 unfold at' at e
 unfold LQ.ok at h
 simp only [Prod.mk.injEq] at e
 have h1 : (s - t) * (l.a * l.a + l.b * l.b) = 0 := by
  have a1 : l.b * (s - t) = 0 := by grind
  have a2 : l.a * (s - t) = 0 := by grind
  grind
 rcases Rat.mul_eq_zero.1 h1 with h2 | h2
 ·grind
 ·rw [h2] at h; grind
theorem side_pos (h : 0 < k) : 0 < c + t * k ↔ -(c / k) < t := by
 have hi := Rat.mul_inv_cancel k (by grind)
 have hj := Eu h
 rw [Rat.div_def]
 have e : t + c * k⁻¹ = (c + t * k) * k⁻¹ := by
  have : (c + t * k) * k⁻¹ = c * k⁻¹ + t * (k * k⁻¹) := by grind
  rw [this, hi]; grind
 constructor
 ·intro h1
  have := mpos h1 hj
  grind
 ·intro h1
  have h2 : 0 < (c + t * k) * k⁻¹ := by rw [← e]; grind
  have h3 := mpos h2 h
  have : (c + t * k) * k⁻¹ * k = (c + t * k) * (k * k⁻¹) := by grind
  rw [this, hi] at h3
  grind
theorem side_neg (h : k < 0) : 0 < c + t * k ↔ t < -(c / k) := by
 have h1 := side_pos (c := c) (k := -k) (t := -t) (by grind)
 have e1 : c + -t * -k = c + t * k := by grind
 have e2 : c / -k = -(c / k) := by
  rw [Rat.div_def, Rat.div_def]
  have hi := Rat.mul_inv_cancel k (by grind)
  have hj := Rat.mul_inv_cancel (-k) (by grind)
  generalize k⁻¹ = I, (-k)⁻¹ = J at *
  have : J = -I := by
   have a1 : J * (k * I) = J := by rw [hi]; grind
   grind
  rw [this]; grind
 rw [e1, e2] at h1
 rw [h1]; grind
variable {v : IQ}
theorem cut_spec (hv : v.empty = false) : ((l.cut v m).2 = true ↔ ∃ t, v.Ins t ∧ 0 < m.val (l.at' t)) ∧ ((l.cut v m).2 = true → (l.cut v m).1.empty = false ∧ ∀ t, (l.cut v m).1.Ins t ↔ v.Ins t ∧ 0 < m.val (l.at' t)) := by
 simp only [val_at]; unfold cut
 by_cases h0 : l.kk m = 0
 ·rw [if_pos h0, h0]
  have h2 : ∀ t : Rat, l.cc m + t * 0 = l.cc m := fun t => by grind
  simp only [h2, decide_eq_true_eq]
  refine ⟨⟨fun h => ⟨_, IQ.sample_ins hv, h⟩, fun ⟨_, _, h⟩ => h⟩, fun h => ⟨hv, fun t => ⟨fun k => ⟨k, h⟩, fun k => k.1⟩⟩⟩
 ·rw [if_neg h0]
  by_cases h1 : 0 < l.kk m
  ·rw [if_pos h1]; simp only [side_pos h1]
   have e : ∀ t, (v.meet ⟨-(l.cc m / l.kk m), 0, false, true⟩).Ins t ↔ v.Ins t ∧ -(l.cc m / l.kk m) < t := fun t => by rw [IQ.meet_ins]; simp [IQ.Ins]
   have e2 : (!(v.meet ⟨-(l.cc m / l.kk m), 0, false, true⟩).empty) = true ↔ (v.meet ⟨-(l.cc m / l.kk m), 0, false, true⟩).empty = false := by simp
   rw [e2]
   refine ⟨?_, fun h => ⟨h, e⟩⟩
   rw [IQ.empty_iff]; simp only [e]
  ·rw [if_neg h1]
   have h1' : l.kk m < 0 := by grind
   simp only [side_neg h1']
   have e : ∀ t, (v.meet ⟨0, -(l.cc m / l.kk m), true, false⟩).Ins t ↔ v.Ins t ∧ t < -(l.cc m / l.kk m) := fun t => by rw [IQ.meet_ins]; simp [IQ.Ins]
   have e2 : (!(v.meet ⟨0, -(l.cc m / l.kk m), true, false⟩).empty) = true ↔ (v.meet ⟨0, -(l.cc m / l.kk m), true, false⟩).empty = false := by simp
   rw [e2]
   refine ⟨?_, fun h => ⟨h, e⟩⟩
   rw [IQ.empty_iff]; simp only [e]
theorem cut_has (hv : v.empty = false) (ht : v.Has t) (hm : 0 < m.val (l.at' t)) : (l.cut v m).2 = true ∧ (l.cut v m).1.Has t := by
 have h1 : (l.cut v m).2 = true := (cut_spec hv).1.2 (by
  obtain ⟨e, e1, e2⟩ := Hg [(m.val (l.at' t), (v.sample - t) * l.kk m)] (fun p hp => by obtain rfl := List.mem_singleton.1 hp; exact hm)
  obtain ⟨d, d1, d2, d3⟩ : ∃ d : Rat, 0 < d ∧ d ≤ e ∧ d ≤ 1 := by
   rcases (Rat.le_total : e ≤ 1 ∨ _) with h | h
   ·exact ⟨e, e1, by grind, h⟩
   ·exact ⟨1, by grind, h, by grind⟩
  refine ⟨_, IQ.ins_mid (IQ.sample_ins hv) ht d1 d3, ?_⟩
  have h3 := e2 d (by grind) d2 _ (List.mem_singleton.2 rfl)
  rw [val_at] at h3 ⊢
  simp only at h3
  grind)
 refine ⟨h1, ?_⟩
 rw [val_at] at hm; unfold cut at h1 ⊢
 by_cases h0 : l.kk m = 0
 ·rw [if_pos h0]; exact ht
 ·rw [if_neg h0] at h1 ⊢
  by_cases h2 : 0 < l.kk m
  ·rw [if_pos h2, IQ.meet_has]
   refine ⟨ht, ?_⟩
   rw [side_pos h2] at hm
   simp [IQ.Has]; grind
  ·rw [if_neg h2, IQ.meet_has]
   refine ⟨ht, ?_⟩
   rw [side_neg (by grind)] at hm
   simp [IQ.Has]; grind
end LQ
structure FQ where
 l : LQ
 v : IQ
deriving DecidableEq
def lns (C : List FQ) : List LQ := C.map FQ.l
def part : List FQ → LQ → IQ → IQ × Bool
 | [], _, v => (v, true)
 | s :: C, m, v => if (m.cut v s.l).2 then part C m (m.cut v s.l).1 else (IQ.none, false)
variable {m s : LQ}
theorem Sy : ∀ {C : List FQ} {v : IQ}, v.empty = false → ((part C m v).2 = true ↔ ∃ t, v.Ins t ∧ ∀ s ∈ C, 0 < s.l.val (m.at' t)) ∧
  ((part C m v).2 = true → (part C m v).1.empty = false ∧ ∀ t, (part C m v).1.Ins t ↔ v.Ins t ∧ ∀ s ∈ C, 0 < s.l.val (m.at' t)) := by
 intro C
 induction C with
 | nil =>
  intro v hv
  refine ⟨⟨fun _ => ⟨_, IQ.sample_ins hv, fun s hs => by simp at hs⟩, fun _ => rfl⟩, fun _ => ⟨hv, fun t => ⟨fun h => ⟨h, fun s hs => by simp at hs⟩, fun h => h.1⟩⟩⟩
 | cons s C ih =>
  intro v hv; obtain ⟨h1, h2⟩ := LQ.cut_spec (l := m) (m := s.l) hv; unfold part
  by_cases hc : (m.cut v s.l).2 = true
  ·rw [if_pos hc]; obtain ⟨h3, h4⟩ := h2 hc; obtain ⟨i1, i2⟩ := ih h3
   have e : ∀ t, ((m.cut v s.l).1.Ins t ∧ ∀ r ∈ C, 0 < r.l.val (m.at' t)) ↔ v.Ins t ∧ ∀ r ∈ s :: C, 0 < r.l.val (m.at' t) := fun t => by
    rw [h4]; constructor
    ·rintro ⟨⟨a, b⟩, c⟩
     refine ⟨a, fun r hr => ?_⟩
     rcases List.mem_cons.1 hr with rfl | hr
     ·exact b
     ·exact c r hr
    ·rintro ⟨a, b⟩
     exact ⟨⟨a, b s (by simp)⟩, fun r hr => b r (by simp [hr])⟩
   simp only [e] at i1 i2; exact ⟨i1, i2⟩
  ·rw [if_neg hc]
   exact ⟨⟨fun h => (nomatch h), fun k => by obtain ⟨t, a, b⟩ := k; exact absurd (h1.2 ⟨t, a, b s (by simp)⟩) hc⟩, fun h => (nomatch h)⟩
def sgn' (x : Rat) : Int := if x < 0 then -1 else if 0 < x then 1 else 0
def Ff : List FQ → LQ → Int
 | [], _ => -1
 | s :: C, l => if sgn' (l.val (s.l.at' s.v.sample)) ≠ 0 then sgn' (l.val (s.l.at' s.v.sample)) else if s.l = l then 1 else Ff C l
def place (C : List FQ) (l : LQ) : Int := if (part C l IQ.all).2 then 0 else Ff C l
def Ji (p : Rat × Rat) : Int := if 0 < p.2 ∨ (p.2 = 0 ∧ 0 < p.1) then 1 else if p.2 < 0 ∨ p.1 < 0 then 2 else 0
def Fv (u v : Rat × Rat) : Int := if Ji u < Ji v then -1 else if Ji v < Ji u then 1 else -(sgn' (u.1 * v.2 - u.2 * v.1))
def LQ.dir (l : LQ) : Rat × Rat := (l.b, -l.a)
def bs (c : Nat → Int) : Nat → Nat → Nat → Nat
 | 0, i, _ => i
 | n + 1, i, j => if i < j then if c ((i + j) / 2) < 0 then bs c n ((i + j) / 2 + 1) j else bs c n i ((i + j) / 2) else i
theorem Yq {c : Nat → Int} : ∀ {n i j : Nat}, i ≤ j → bs c n i j ≤ j := by
 intro n
 induction n with
 | zero => exact fun h => h
 | succ n ih =>
  intro i j h; unfold bs
  split
  ·split
   ·exact ih (by omega)
   ·exact Nat.le_trans (ih (by omega)) (by omega)
  ·exact h
def kept (C : List FQ) (l : LQ) : List FQ := C.flatMap fun s => if (s.l.cut s.v l).2 then [⟨s.l, (s.l.cut s.v l).1⟩] else []
def sd (C : List FQ) (i : Nat) : FQ := C.getD i ⟨⟨0, 0, 0⟩, IQ.none⟩
def spot (C : List FQ) (l : LQ) : Nat := bs (fun i => Fv (sd C i).l.dir l.dir) C.length 0 C.length
def clip (C : List FQ) (l : LQ) : List FQ × Bool :=
 if (part C l IQ.all).2 then ((kept C l).take (spot (kept C l) l) ++ ⟨l, (part C l IQ.all).1⟩ :: (kept C l).drop (spot (kept C l) l), true) else (C, decide (0 < place C l))
theorem Qdv {A : Type} {L : List A} {n : Nat} {a x : A} : x ∈ L.take n ++ a :: L.drop n ↔ x = a ∨ x ∈ L := by
 have : x ∈ L ↔ x ∈ L.take n ∨ x ∈ L.drop n := by rw [← List.mem_append, List.take_append_drop]
 rw [List.mem_append, List.mem_cons, this]; constructor
 ·rintro (h | h | h)
  ·exact .inr (.inl h)
  ·exact .inl h
  ·exact .inr (.inr h)
 ·rintro (h | h | h)
  ·exact .inr (.inl h)
  ·exact .inl h
  ·exact .inr (.inr h)
def One (l m : LQ) : Prop := ∀ k : Rat, 0 < k → m.a = k * l.a → m.b = k * l.b → m.c = k * l.c → m = l
structure CellOK (C : List FQ) : Prop where
 proper : Proper (lns C)
 iv : ∀ s ∈ C, s.v.empty = false ∧ ∀ t, s.v.Ins t ↔ Ez (lns C) s.l (s.l.at' t)
theorem CellOK.nil : CellOK [] := ⟨⟨⟨(0, 0), fun s hs => by simp [lns] at hs⟩, fun s hs => by simp [lns] at hs, fun s hs => by simp [lns] at hs⟩, fun s hs => by simp at hs⟩
variable {C : List FQ}
theorem Qkk : m ∈ lns C ↔ ∃ s ∈ C, s.l = m := by simp [lns]
theorem Qfa {l : LQ} {r : FQ} : r ∈ kept C l ↔ ∃ s ∈ C, (s.l.cut s.v l).2 = true ∧ r = ⟨s.l, (s.l.cut s.v l).1⟩ := by
 unfold kept; rw [List.mem_flatMap]; constructor
 ·rintro ⟨s, hs, h⟩
  split at h
  ·next h2 => exact ⟨s, hs, h2, List.mem_singleton.1 h⟩
  ·simp at h
 ·rintro ⟨s, hs, h1, h2⟩
  exact ⟨s, hs, by rw [if_pos h1, h2]; simp⟩
variable {p : Rat × Rat}
theorem Qhp : Inn (lns C) p ↔ ∀ s ∈ C, 0 < s.l.val p := by
 unfold Inn lns; simp
theorem Wv (t : Rat) : IQ.all.Ins t := ⟨.inl rfl, .inl rfl⟩
theorem Qc {l : LQ} (hl : l.ok) : (part C l IQ.all).2 = true ↔ ∃ x, l.val x = 0 ∧ Inn (lns C) x := by
 rw [(Sy (m := l) (C := C) (v := IQ.all) (by rfl)).1]; constructor
 ·rintro ⟨t, _, h⟩
  exact ⟨l.at' t, LQ.on_at hl t, Qhp.2 h⟩
 ·rintro ⟨x, h0, h⟩
  refine ⟨l.par x, Wv _, ?_⟩
  rw [LQ.at_par hl h0]; exact Qhp.1 h
theorem CellOK.keep_iff (hC : CellOK C) {l : LQ} {s : FQ} (hs : s ∈ C) : (s.l.cut s.v l).2 = true ↔ Jo (lns C) l s.l := by
 obtain ⟨h1, h2⟩ := hC.iv s hs
 have hok := hC.proper.ok s.l (Qkk.2 ⟨s, hs, rfl⟩)
 rw [(LQ.cut_spec h1).1]; constructor
 ·rintro ⟨t, a, b⟩
  exact ⟨_, (h2 t).1 a, b⟩
 ·rintro ⟨x, a, b⟩
  have e := LQ.at_par hok a.1
  refine ⟨s.l.par x, (h2 _).2 ?_, ?_⟩
  ·rw [e]; exact a
  ·rw [e]; exact b
theorem Qk5 (hC : CellOK C) {l : LQ} (hl : l.ok) (h : (part C l IQ.all).2 = true) : (clip C l).2 = true ∧ CellOK (clip C l).1 ∧ (∀ p, Inn (lns (clip C l).1) p ↔ Inn (lns C) p ∧ 0 < l.val p) ∧
  ∀ r ∈ (clip C l).1, r.l = l ∨ ∃ s ∈ C, s.l = r.l := by
 have hv := (Qc hl).1 h
 obtain ⟨x, hx0, hx⟩ := hv; obtain ⟨hq, _⟩ := N3 hl hx0 hx
 have hv : ∃ x, l.val x = 0 ∧ Inn (lns C) x := ⟨x, hx0, hx⟩
 have hp := Sy (m := l) (C := C) (v := IQ.all) (by rfl)
 unfold clip; rw [if_pos h]
 simp only
 generalize spot (kept C l) l = n
 have hm : ∀ r, r ∈ (kept C l).take n ++ ⟨l, (part C l IQ.all).1⟩ :: (kept C l).drop n ↔ r = ⟨l, (part C l IQ.all).1⟩ ∨ ∃ s ∈ C, (s.l.cut s.v l).2 = true ∧ r = ⟨s.l, (s.l.cut s.v l).1⟩ := fun r => by rw [Qdv, Qfa]
 generalize (kept C l).take n ++ ⟨l, (part C l IQ.all).1⟩ :: (kept C l).drop n = D at *
 have hcut : CutTo (lns C) (lns D) l := ⟨fun m => by
  rw [Qkk]; constructor
  ·rintro ⟨r, hr, rfl⟩
   rcases (hm r).1 hr with rfl | ⟨s, hs, h1, rfl⟩
   ·exact .inl rfl
   ·exact .inr ⟨Qkk.2 ⟨s, hs, rfl⟩, (hC.keep_iff hs).1 h1⟩
  ·rintro (rfl | ⟨h1, h2⟩)
   ·exact ⟨_, (hm _).2 (.inl rfl), rfl⟩
   ·obtain ⟨s, hs, rfl⟩ := Qkk.1 h1
    exact ⟨_, (hm _).2 (.inr ⟨s, hs, (hC.keep_iff hs).2 h2, rfl⟩), rfl⟩⟩
 refine ⟨trivial, ⟨hcut.proper hC.proper hl hq hv, fun r hr => ?_⟩, fun p => hcut.inn hC.proper hq p, fun r hr => ?_⟩
 ·rcases (hm r).1 hr with rfl | ⟨s, hs, h1, rfl⟩
  ·obtain ⟨h2, h3⟩ := hp.2 h
   refine ⟨h2, fun t => ?_⟩
   show (part C l IQ.all).1.Ins t ↔ Ez (lns D) l (l.at' t)
   rw [h3 t, hcut.side_new hC.proper hl hq hv]
   exact ⟨fun k => ⟨LQ.on_at hl t, Qhp.2 k.2⟩, fun k => ⟨Wv t, Qhp.1 k.2⟩⟩
  ·obtain ⟨h2, h3⟩ := (LQ.cut_spec (l := s.l) (m := l) (hC.iv s hs).1).2 h1
   refine ⟨h2, fun t => ?_⟩
   show (s.l.cut s.v l).1.Ins t ↔ Ez (lns D) s.l (s.l.at' t)
   rw [h3 t, hcut.side_kept hC.proper hq (Qkk.2 ⟨s, hs, rfl⟩) ((hC.keep_iff hs).1 h1), (hC.iv s hs).2 t]
 ·rcases (hm r).1 hr with rfl | ⟨s, hs, _, rfl⟩
  ·exact .inl rfl
  ·exact .inr ⟨s, hs, rfl⟩
variable {x : Rat}
theorem Qle : sgn' x ≠ 0 ↔ x ≠ 0 := by unfold sgn'; grind
theorem S5 : 0 < sgn' x ↔ 0 < x := by unfold sgn'; grind
theorem Vf {C : List LQ} (hs : s.ok) {x : Rat × Rat} (hx : Ez C s x) {l : LQ} (h : 0 < l.val x) : ∃ q, Inn C q ∧ 0 < l.val q := by
 obtain ⟨e, e1, e2⟩ := Hg ((l.val x, l.a * s.a + l.b * s.b) :: (C.filter (fun r => decide (r ≠ s))).map (fun r => (r.val x, r.a * s.a + r.b * s.b))) (fun z hz => by
  rcases List.mem_cons.1 hz with rfl | hz
  ·exact h
  ·obtain ⟨r, hr, rfl⟩ := List.mem_map.1 hz
   have := List.mem_filter.1 hr
   exact hx.2 r this.1 (by simpa using this.2))
 have hp : ∀ z : LQ, z.val (x.1 + e * s.a, x.2 + e * s.b) = z.val x + e * (z.a * s.a + z.b * s.b) := fun z => by unfold LQ.val; grind
 refine ⟨(x.1 + e * s.a, x.2 + e * s.b), fun r hr => ?_, ?_⟩
 ·rw [hp]
  by_cases hrs : r = s
  ·subst hrs
   unfold LQ.ok at hs
   have := mpos e1 hs
   rw [hx.1]; grind
  ·exact e2 e (by grind) (by grind) _ (List.mem_cons_of_mem _ (List.mem_map.2 ⟨r, List.mem_filter.2 ⟨hr, by simpa using hrs⟩, rfl⟩))
 ·rw [hp]; exact e2 e (by grind) (by grind) _ (List.mem_cons_self ..)
theorem touch {C : List LQ} {l : LQ} (hs : s.ok) (hl : l.ok) (hn : ∀ x, l.val x = 0 → ¬ Inn C x) {x : Rat × Rat} (hx : Ez C s x) (h0 : l.val x = 0) : ∃ k : Rat, k ≠ 0 ∧ l.a = k * s.a ∧ l.b = k * s.b ∧ l.c = k * s.c := by
 by_cases hd : l.b * s.a - l.a * s.b = 0
 ·unfold LQ.ok at hs hl
  have hS : s.a * s.a + s.b * s.b ≠ 0 := by grind
  have hi := Rat.mul_inv_cancel _ hS
  refine ⟨(l.a * s.a + l.b * s.b) * (s.a * s.a + s.b * s.b)⁻¹, ?_, ?_, ?_, ?_⟩
  ·intro e
   rcases Rat.mul_eq_zero.1 e with e | e
   ·have h1 : l.a * (s.a * s.a + s.b * s.b) = 0 := by grind
    have h2 : l.b * (s.a * s.a + s.b * s.b) = 0 := by grind
    rcases Rat.mul_eq_zero.1 h1 with h1 | h1
    ·rcases Rat.mul_eq_zero.1 h2 with h2 | h2
     ·rw [h1, h2] at hl; grind
     ·exact hS h2
    ·exact hS h1
   ·rw [e] at hi; grind
  ·generalize (s.a * s.a + s.b * s.b)⁻¹ = I at *
   have h1 : l.a = l.a * ((s.a * s.a + s.b * s.b) * I) := by rw [hi]; grind
   grind
  ·generalize (s.a * s.a + s.b * s.b)⁻¹ = I at *
   have h1 : l.b = l.b * ((s.a * s.a + s.b * s.b) * I) := by rw [hi]; grind
   grind
  ·have hx1 := hx.1
   unfold LQ.val at hx1 h0
   have e1 : l.c = -(l.a * x.1 + l.b * x.2) := by grind
   have e2 : s.c = -(s.a * x.1 + s.b * x.2) := by grind
   rw [e1, e2]
   generalize (s.a * s.a + s.b * s.b)⁻¹ = I at *
   have h1 : l.a = l.a * ((s.a * s.a + s.b * s.b) * I) := by rw [hi]; grind
   have h2 : l.b = l.b * ((s.a * s.a + s.b * s.b) * I) := by rw [hi]; grind
   have h3 : l.a * x.1 + l.b * x.2 = (l.a * ((s.a * s.a + s.b * s.b) * I)) * x.1 + (l.b * ((s.a * s.a + s.b * s.b) * I)) * x.2 := by rw [← h1, ← h2]
   rw [h3]
   grind
 ·exfalso
  obtain ⟨u, v, huv1, huv2⟩ : ∃ u v : Rat, l.a * u + l.b * v = 0 ∧ 0 < s.a * u + s.b * v := by
   rcases (by grind : 0 < l.b * s.a - l.a * s.b ∨ l.b * s.a - l.a * s.b < 0) with h | h
   ·exact ⟨l.b, -l.a, by grind, by grind⟩
   ·exact ⟨-l.b, l.a, by grind, by grind⟩
  obtain ⟨e, e1, e2⟩ := Hg ((C.filter (fun r => decide (r ≠ s))).map (fun r => (r.val x, r.a * u + r.b * v))) (fun z hz => by
   obtain ⟨r, hr, rfl⟩ := List.mem_map.1 hz
   have := List.mem_filter.1 hr
   exact hx.2 r this.1 (by simpa using this.2))
  have hp : ∀ z : LQ, z.val (x.1 + e * u, x.2 + e * v) = z.val x + e * (z.a * u + z.b * v) := fun z => by unfold LQ.val; grind
  refine hn (x.1 + e * u, x.2 + e * v) (by rw [hp, h0, huv1]; grind) (fun r hr => ?_)
  rw [hp]
  by_cases hrs : r = s
  ·subst hrs
   have := mpos e1 huv2
   rw [hx.1]; grind
  ·exact e2 e (by grind) (by grind) _ (List.mem_map.2 ⟨r, List.mem_filter.2 ⟨hr, by simpa using hrs⟩, rfl⟩)
theorem Qch (hC : CellOK C) {l : LQ} (hl : l.ok) (hn : ∀ x, l.val x = 0 → ¬ Inn (lns C) x) (ho : ∀ s ∈ C, One l s.l ∧ One s.l l) : ∀ D : List FQ, (∀ s ∈ D, s ∈ C) → D ≠ [] → (0 < Ff D l ↔ ∃ q, Inn (lns C) q ∧ 0 < l.val q) := by
 have mir : (∃ q, Inn (lns C) q ∧ 0 < (rev l).val q) → ¬ ∃ q, Inn (lns C) q ∧ 0 < l.val q := by
  rintro ⟨q, h1, h2⟩ ⟨p, h3, h4⟩
  have := Uw hn h3 h1 h4
  rw [Cp] at h2
  grind
 intro D
 induction D with
 | nil => exact fun _ h => absurd rfl h
 | cons s D ih =>
  intro hD _
  have hs := hD s (by simp)
  have hok := hC.proper.ok s.l (Qkk.2 ⟨s, hs, rfl⟩)
  have hx := ((hC.iv s hs).2 _).1 (IQ.sample_ins (hC.iv s hs).1)
  unfold Ff
  by_cases h0 : sgn' (l.val (s.l.at' s.v.sample)) ≠ 0
  ·rw [if_pos h0, S5]; rw [Qle] at h0; constructor
   ·exact fun h => Vf hok hx h
   ·intro h
    rcases (by grind : 0 < l.val (s.l.at' s.v.sample) ∨ l.val (s.l.at' s.v.sample) < 0) with h1 | h1
    ·exact h1
    ·exact absurd h (mir (Vf hok hx (by rw [Cp]; grind)))
  ·rw [if_neg h0]
   have h0' : l.val (s.l.at' s.v.sample) = 0 := by
    rcases (by grind : l.val (s.l.at' s.v.sample) = 0 ∨ l.val (s.l.at' s.v.sample) ≠ 0) with h | h
    ·exact h
    ·exact absurd (Qle.2 h) h0
   by_cases he : s.l = l
   ·rw [if_pos he]
    refine ⟨fun _ => ?_, fun _ => by decide⟩
    obtain ⟨q, hq⟩ := hC.proper.inn; exact ⟨q, hq, he ▸ hq s.l (Qkk.2 ⟨s, hs, rfl⟩)⟩
   ·rw [if_neg he]; obtain ⟨k, k0, k1, k2, k3⟩ := touch hok hl hn hx h0'
    have hk : k < 0 := by
     rcases (by grind : 0 < k ∨ k < 0) with h | h
     ·exact absurd ((ho s hs).2 k h k1 k2 k3).symm he
     ·exact h
    have hno : ¬ ∃ q, Inn (lns C) q ∧ 0 < l.val q := by
     rintro ⟨q, h1, h2⟩
     have h3 := h1 s.l (Qkk.2 ⟨s, hs, rfl⟩)
     have e : l.val q = k * s.l.val q := by unfold LQ.val; rw [k1, k2, k3]; grind
     have := mpos (x := -k) (by grind) h3
     rw [e] at h2; grind
    by_cases hd : D = []
    ·subst hd
     refine ⟨fun h => absurd h (by unfold Ff; decide), fun h => absurd h hno⟩
    ·exact ih (fun r hr => hD r (by simp [hr])) hd
theorem Qcu (hC : CellOK C) {l : LQ} (hl : l.ok) (ho : ∀ s ∈ C, One l s.l ∧ One s.l l) :
  ((clip C l).2 = true ↔ ∃ q, Inn (lns C) q ∧ 0 < l.val q) ∧ ((clip C l).2 = true → CellOK (clip C l).1 ∧ (∀ p, Inn (lns (clip C l).1) p ↔ Inn (lns C) p ∧ 0 < l.val p)) ∧ ∀ r ∈ (clip C l).1, r.l = l ∨ ∃ s ∈ C, s.l = r.l := by
 by_cases h : (part C l IQ.all).2 = true
 ·obtain ⟨h1, h2, h3, h4⟩ := Qk5 hC hl h
  refine ⟨⟨fun _ => ?_, fun _ => h1⟩, fun _ => ⟨h2, h3⟩, h4⟩
  obtain ⟨x, hx0, hx⟩ := (Qc hl).1 h; exact (N3 hl hx0 hx).1
 ·have hn : ∀ x, l.val x = 0 → ¬ Inn (lns C) x := fun x h0 hx => h ((Qc hl).2 ⟨x, h0, hx⟩)
  have hne : C ≠ [] := by rintro rfl; exact h rfl
  have hp := Qch hC hl hn ho C (fun s hs => hs) hne
  unfold clip place; rw [if_neg h, if_neg h]; simp only [decide_eq_true_eq]
  refine ⟨hp, fun h1 => ⟨hC, fun p => ⟨fun hp2 => ⟨hp2, ?_⟩, fun hp2 => hp2.1⟩⟩, fun r hr => .inr ⟨r, hr, rfl⟩⟩
  obtain ⟨q, hq1, hq2⟩ := hp.1 h1; exact Uw hn hq1 hp2 hq2
def Bq (p n : Rat × Rat) : List FQ → Rat → Rat
 | [], f => f
 | s :: C, f => Bq p n C (if s.l.a * n.1 + s.l.b * n.2 < 0 then (if -(s.l.val p / (s.l.a * n.1 + s.l.b * n.2)) < f then -(s.l.val p / (s.l.a * n.1 + s.l.b * n.2)) else f) else f)
def inner : List FQ → Rat × Rat
 | [] => (0, 0)
 | s :: C => ((s.l.at' s.v.sample).1 + s.l.a * (Bq (s.l.at' s.v.sample) (s.l.a, s.l.b) C 1 / 2), (s.l.at' s.v.sample).2 + s.l.b * (Bq (s.l.at' s.v.sample) (s.l.a, s.l.b) C 1 / 2))
theorem Qic {n : Rat × Rat} : ∀ (C : List FQ) (f : Rat), 0 < f → (∀ s ∈ C, 0 < s.l.val p ∨ (0 ≤ s.l.val p ∧ 0 ≤ s.l.a * n.1 + s.l.b * n.2)) →
  0 < Bq p n C f ∧ Bq p n C f ≤ f ∧ ∀ s ∈ C, s.l.a * n.1 + s.l.b * n.2 < 0 → Bq p n C f * (s.l.a * n.1 + s.l.b * n.2) + s.l.val p ≥ 0 := by
 intro C
 induction C with
 | nil => exact fun f hf _ => ⟨hf, by unfold Bq; grind, fun s hs => by simp at hs⟩
 | cons s C ih =>
  intro f hf h
  have hs := h s (by simp)
  have hC := fun r (hr : r ∈ C) => h r (by simp [hr])
  unfold Bq
  by_cases hk : s.l.a * n.1 + s.l.b * n.2 < 0
  ·rw [if_pos hk]
   have hv : 0 < s.l.val p := by rcases hs with h | h; exact h; grind
   generalize hk0 : s.l.a * n.1 + s.l.b * n.2 = k, hv0 : s.l.val p = v at *
   have hi := Rat.mul_inv_cancel k (by grind)
   have hj : 0 < -k⁻¹ := by
    have h1 := Eu (x := -k) (by grind)
    have h2 := Rat.mul_inv_cancel (-k) (by grind)
    generalize k⁻¹ = I, (-k)⁻¹ = J at *
    have : J = -I := by
     have a1 : J * (k * I) = J := by rw [hi]; grind
     grind
    grind
   have hq : 0 < -(v / k) := by
    rw [Rat.div_def]
    have := mpos hv hj
    grind
   have hq2 : -(v / k) * k + v = 0 := by
    rw [Rat.div_def]
    generalize k⁻¹ = I at *
    have : -(v * I) * k + v = v - v * (k * I) := by grind
    rw [this, hi]; grind
   generalize -(v / k) = q at *
   by_cases hlt : q < f
   ·rw [if_pos hlt]; obtain ⟨a, b, c⟩ := ih q hq hC
    refine ⟨a, by grind, fun r hr hrk => ?_⟩
    rcases List.mem_cons.1 hr with rfl | hr
    ·have h6 := Rat.mul_nonneg (a := q - Bq p n C q) (b := -k) (by grind) (by grind)
     rw [hk0, hv0]; clear ih c h
     generalize Bq p n C q = F at *
     grind
    ·exact c r hr hrk
   ·rw [if_neg hlt]; obtain ⟨a, b, c⟩ := ih f hf hC
    refine ⟨a, b, fun r hr hrk => ?_⟩
    rcases List.mem_cons.1 hr with rfl | hr
    ·have h6 := Rat.mul_nonneg (a := q - Bq p n C f) (b := -k) (by grind) (by grind)
     rw [hk0, hv0]; clear ih c h
     generalize Bq p n C f = F at *
     grind
    ·exact c r hr hrk
  ·rw [if_neg hk]; obtain ⟨a, b, c⟩ := ih f hf hC
   refine ⟨a, b, fun r hr hrk => ?_⟩
   rcases List.mem_cons.1 hr with rfl | hr
   ·exact absurd hrk hk
   ·exact c r hr hrk
theorem Qi0 (hC : CellOK C) : Inn (lns C) (inner C) := by
 cases C with
 | nil => exact fun s hs => by simp [lns] at hs
 | cons s C =>
  have hs : s ∈ s :: C := by simp
  have hok := hC.proper.ok s.l (Qkk.2 ⟨s, hs, rfl⟩)
  have hx := ((hC.iv s hs).2 _).1 (IQ.sample_ins (hC.iv s hs).1)
  simp only [inner]
  generalize s.l.at' s.v.sample = p at *
  have hside : ∀ r ∈ C, 0 < r.l.val p ∨ (0 ≤ r.l.val p ∧ 0 ≤ r.l.a * s.l.a + r.l.b * s.l.b) := fun r hr => by
   by_cases e : r.l = s.l
   ·right
    unfold LQ.ok at hok
    rw [e, hx.1]; exact ⟨by grind, by grind⟩
   ·exact .inl (hx.2 r.l (Qkk.2 ⟨r, by simp [hr], rfl⟩) e)
  obtain ⟨a, b, c⟩ := Qic (p := p) (n := (s.l.a, s.l.b)) C 1 (by grind) hside
  have hp : ∀ z : LQ, z.val (p.1 + s.l.a * (Bq p (s.l.a, s.l.b) C 1 / 2), p.2 + s.l.b * (Bq p (s.l.a, s.l.b) C 1 / 2)) = z.val p + Bq p (s.l.a, s.l.b) C 1 / 2 * (z.a * s.l.a + z.b * s.l.b) := fun z => by unfold LQ.val; grind
  generalize Bq p (s.l.a, s.l.b) C 1 = f at *
  rw [Qhp]; intro r hr; rw [hp]
  rcases List.mem_cons.1 hr with rfl | hr
  ·unfold LQ.ok at hok
   have := mpos a hok
   rw [hx.1]; grind
  ·have h1 := hside r hr
   have h2 := c r hr
   by_cases e : r.l = s.l
   ·unfold LQ.ok at hok
    have := mpos a hok
    rw [e, hx.1]; grind
   ·have hv := hx.2 r.l (Qkk.2 ⟨r, by simp [hr], rfl⟩) e
    simp only at h2
    by_cases hk : r.l.a * s.l.a + r.l.b * s.l.b < 0
    ·have := h2 hk; grind
    ·have := Rat.mul_nonneg (a := f) (b := r.l.a * s.l.a + r.l.b * s.l.b) (by grind) (by grind)
     grind
end Cel
end
theorem Qdh {la lb L : List Nat} {c k : Nat} (hL : L.length = la.length + 1) (hz : ∀ j, k ≤ j → L.getD j 0 = 0) (hdL : Dig L) (hc : c ≤ 1) (hk : k < la.length) (hda : Dig la) (hdb : Dig lb)
  (h : val L + 4294967296 ^ k * c = val (la.take k) + val (lb.take k)) (y : Nat) (hy : (k < lb.length ∧ y = lb.getD k 0) ∨ (lb.length ≤ k ∧ y = 0)) :
  let t := c + la.getD k 0 + y
  Dig (L.set k (t % 4294967296)) ∧ t / 4294967296 ≤ 1 ∧ (∀ j, k + 1 ≤ j → (L.set k (t % 4294967296)).getD j 0 = 0) ∧
   val (L.set k (t % 4294967296)) + 4294967296 ^ (k + 1) * (t / 4294967296) = val (la.take (k + 1)) + val (lb.take (k + 1)) := by
 intro t
 have h1 := An hda k
 have hy2 : y < 4294967296 := by
  rcases hy with ⟨_, rfl⟩ | ⟨_, rfl⟩
  ·exact An hdb k
  ·omega
 have hb : val (lb.take (k + 1)) = val (lb.take k) + 4294967296 ^ k * y := by
  rcases hy with ⟨hy, rfl⟩ | ⟨hy, rfl⟩
  ·exact Ds lb k hy
  ·rw [List.take_of_length_le (by omega), List.take_of_length_le hy]; simp
 have h2 := Nc (L := L) (j := k) (c := c) (s := la.getD k 0 + y) (t := t) (by omega) (by rw [hz k (Nat.le_refl _)]; omega)
 refine ⟨G6 hdL k (by omega), by omega, fun j hj => ?_, ?_⟩
 ·rw [Cq _ _ _ _ (by omega)]; exact hz j (by omega)
 ·rw [h2, hb, Ds la k hk, Nat.mul_add, h]; omega
theorem Qju {la lb L : List Nat} {c : Nat} (hL : L.length = la.length + 1) (hz : ∀ j, la.length ≤ j → L.getD j 0 = 0) (hlen : lb.length ≤ la.length)
  (h : val L + 4294967296 ^ la.length * c = val (la.take la.length) + val (lb.take la.length)) : val (L.set la.length c) = val la + val lb := by
 rw [Gz (by omega) (hz _ (Nat.le_refl _)), h, List.take_length, List.take_of_length_le hlen]
theorem Xq (w : World) (a b : Option Addr) (capa capb : Nat) (la lb : List Nat) (args : Array Value) (hlen : lb.length ≤ la.length)
  (hargs : args = #[.slice a la.length capa, .slice b lb.length capb] ∨ (args = #[.slice b lb.length capb, .slice a la.length capa] ∧ lb.length < la.length)) (hla : la.length ≤ 1000000)
  (hda : Dig la) (hdb : Dig lb) (hra : C5 w a la) (hrb : C5 w b lb) :
  Calls Tryz.prog 204 args w fun e w' => ∃ v, e = .returned v ∧ Own w' w.heap.size v (nf (val la + val lb)) ∧ Below w.heap.size w w' := by
 rcases hargs with rfl | ⟨rfl, hlt⟩
 all_goals
  go_enter Tryz.func204, Tryz.ntmps204
  go_wp2_with (at_make; go_loud (refine Dg _ rfl (.tmp 18) (.tmp 18) 45 rfl Tryz.underlying45 _ _ (la.length + 1) rfl rfl (by omega) (by omega) (by omega) ?_); intro w1 R0 B0)
  go_loopw [6, 22] (fun c i wr => ∃ (k cn : Nat) (L : List Nat), k ≤ la.length ∧ i = .int .i64 k ∧ c = .int .u64 cn ∧ cn ≤ 1 ∧ Row wr w.heap.size w.heap.size (la.length + 1) L ∧ Hid (L.length = la.length + 1) ∧ Below w.heap.size w wr ∧
    Hid (∀ j, k ≤ j → L.getD j 0 = 0) ∧ Hid (val L + 4294967296 ^ k * cn = val (la.take k) + val (lb.take k))) (fun _ i _ => la.length - (intOf i).toNat)
  case atStart => exact ⟨0, 0, _, Nat.zero_le _, rfl, rfl, by omega, R0, by show _ = _; simp, B0, fun j _ => C3 _ _, by show _ = _; simp [Dc, Ay]⟩
  case round =>
   obtain ⟨k, cn, L, hk, rfl, rfl, hcn, hR, hL, hB, hz, hv⟩ := hrel
   have hRc := hR.cap
   have hRl := hR.lt
   by_cases hlt : k < la.length
   ·obtain ⟨ba, offa, rfl, cA⟩ := hra.at hB hlt
    have hst := @Qdh la lb L cn k hL.out hz.out hR.dig hcn hlt hda hdb hv.out
    have cR := hR.cell (j := k) (by rw [hL.out]; omega)
    have fR := hR.free k
    have hx := An hda k
    generalize la.getD k 0 = x, L.getD k 0 = z at *
    by_cases hltb : k < lb.length
    ·obtain ⟨bb, offb, rfl, cB⟩ := hrb.at hB hltb
     have hst2 := hst (lb.getD k 0) (.inl ⟨hltb, rfl⟩)
     have hy := An hdb k
     generalize lb.getD k 0 = y at *
     have e1 : ((cn : Int) + (x : Int) + (y : Int)) % 4294967296 = (((cn + x + y) % 4294967296 : Nat) : Int) := (by omega); have HST := Lib.hid hst2; have HE := Lib.hid e1; clear hst hst2 hra hrb e1; go_wp2
     go_roundw
     case rel =>
      obtain ⟨s1, s2, s3, s4⟩ := HST.out; rw [HE.out]
      exact ⟨k + 1, (cn + x + y) / 4294967296, L.set k ((cn + x + y) % 4294967296), by omega, rfl, by go_num, s2, hR.set k (by omega), by show _ = _; rw [List.length_set]; exact hL.out, hB.setCell (Nat.le_refl _) _, s3, s4⟩
     case measure => simp [intOf]; omega
    ·have hst2 := hst 0 (.inr ⟨by omega, rfl⟩)
     have e1 : ((cn : Int) + (x : Int)) % 4294967296 = (((cn + x + 0) % 4294967296 : Nat) : Int) := (by omega); have HST := Lib.hid hst2; have HE := Lib.hid e1; clear hst hst2 hra hrb e1; go_wp2
     go_roundw
     case rel =>
      obtain ⟨s1, s2, s3, s4⟩ := HST.out; rw [HE.out]
      exact ⟨k + 1, (cn + x + 0) / 4294967296, L.set k ((cn + x + 0) % 4294967296), by omega, rfl, by go_num, s2, hR.set k (by omega), by show _ = _; rw [List.length_set]; exact hL.out, hB.setCell (Nat.le_refl _) _, s3, s4⟩
     case measure => simp [intOf]; omega
   ·obtain rfl : k = la.length := by omega
    have hend := Qju hL.out hz.out hlen hv.out
    have cR := hR.cell (j := la.length) (by rw [hL.out]; omega)
    have fR := hR.free la.length
    generalize L.getD la.length 0 = z at *
    have HV := Lib.hid hend
    have HR2 := hR.set la.length (d := cn) (by omega)
    clear hend hra hrb
    go_wp2_with (go_at_call 206; refine (Gi _ _ _ _ _ _ HR2 (by rw [List.length_set]; exact hL.out)).mono ?_; rintro e w2 ⟨v, rfl, ho, rfl⟩)
    go_ret; rw [HV.out] at ho; exact ⟨v, rfl, ho, hB.setCell (Nat.le_refl _) _⟩
theorem Qeo (w : World) (a b : Option Addr) (capa capb : Nat) (la lb : List Nat) (hla : la.length ≤ 1000000) (hlb : lb.length ≤ 1000000)
  (hda : Dig la) (hdb : Dig lb) (hra : C5 w a la) (hrb : C5 w b lb) :
  Calls Tryz.prog 204 #[.slice a la.length capa, .slice b lb.length capb] w fun e w' => ∃ v, e = .returned v ∧ Own w' w.heap.size v (nf (val la + val lb)) ∧ Below w.heap.size w w' := by
 by_cases hlt : la.length < lb.length
 ·rw [Nat.add_comm]; exact Xq w b a capb capa lb la _ (by omega) (.inr ⟨rfl, hlt⟩) hlb hdb hda hrb hra
 ·exact Xq w a b capa capb la lb _ (by omega) (.inl rfl) hla hda hdb hra hrb
theorem Qay (w : World) (u v : Value) (la lb : List Nat) (hu : Rd w u la) (hv : Rd w v lb) (hla : la.length ≤ 1000000) (hlb : lb.length ≤ 1000000) :
  Calls Tryz.prog 204 #[u, v] w fun e w' => ∃ z, e = .returned z ∧ Own w' w.heap.size z (nf (val la + val lb)) ∧ Below w.heap.size w w' := by
 obtain ⟨a, capa, rfl, _, _, hda, hra⟩ := hu; obtain ⟨b, capb, rfl, _, _, hdb, hrb⟩ := hv; exact Qeo w a b capa capb la lb hla hlb hda hdb hra hrb
end Go.Proofs.YtpnpnlmlamfpmaaGreatDoor
