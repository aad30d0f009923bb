import Derived.Below
namespace Go.Proofs.YtpnpnlmlamfpmaaGreatDoor
namespace Cel
theorem mpos {x y : Rat} (h : 0 < x) (k : 0 < y) : 0 < x * y := Rat.mul_pos h k
theorem Eu {x : Rat} (h : 0 < x) : 0 < x⁻¹ := by
 have e := Rat.mul_inv_cancel x (by grind)
 rcases (Rat.le_total : x⁻¹ ≤ 0 ∨ _) with h1 | h1
 ·have := Rat.mul_nonneg (a := x) (b := -x⁻¹) (by grind) (by grind); grind
 ·rcases (by grind : x⁻¹ = 0 ∨ 0 < x⁻¹) with h2 | h2
  ·rw [h2] at e; grind
  ·exact h2
def lerp (t u w : Rat) : Rat := u + t * (w - u)
theorem Xm (L : List (Rat × Rat)) (hu : ∀ p ∈ L, 0 < p.1) (hw : ∃ p ∈ L, p.2 ≤ 0) : ∃ t : Rat, 0 < t ∧ t ≤ 1 ∧ (∀ p ∈ L, 0 ≤ lerp t p.1 p.2) ∧ ∃ p ∈ L, p.2 ≤ 0 ∧ lerp t p.1 p.2 = 0 := by
 induction L with
 | nil => obtain ⟨p, h, _⟩ := hw; simp at h
 | cons x L ih =>
  obtain ⟨u, w⟩ := x
  have hu0 : 0 < u := hu (u, w) (by simp)
  have huL : ∀ p ∈ L, 0 < p.1 := fun p hp => hu p (by simp [hp])
  have zero : w ≤ 0 → ∃ s : Rat, 0 < s ∧ s ≤ 1 ∧ lerp s u w = 0 ∧ s * (u - w) = u := fun hw0 => by
   have hd : 0 < u - w := by grind
   have hi := Rat.mul_inv_cancel _ (Rat.ne_of_gt hd)
   have hj := Eu hd
   refine ⟨u * (u - w)⁻¹, mpos hu0 hj, ?_, ?_, ?_⟩
   ·generalize (u - w)⁻¹ = I at *
    have := Rat.mul_nonneg (a := -w) (b := I) (by grind) (by grind)
    grind
   ·unfold lerp; generalize (u - w)⁻¹ = I at *; grind
   ·generalize (u - w)⁻¹ = I at *; grind
  have pos_at : ∀ {a b s t : Rat}, 0 < a → 0 ≤ s → s ≤ t → 0 ≤ lerp t a b → 0 ≤ lerp s a b := fun {a b s t} ha hs hst h => by
   unfold lerp at *
   by_cases hb : b - a ≤ 0
   ·have := Rat.mul_nonneg (a := t - s) (b := -(b - a)) (by grind) (by grind); grind
   ·have := Rat.mul_nonneg (a := s) (b := b - a) hs (by grind); grind
  by_cases hL : ∃ p ∈ L, p.2 ≤ 0
  ·obtain ⟨t, t1, t2, t3, q, hq, hq2, t4⟩ := ih huL hL
   by_cases hx : 0 ≤ lerp t u w
   ·refine ⟨t, t1, t2, fun p hp => ?_, q, by simp [hq], hq2, t4⟩
    rcases List.mem_cons.1 hp with rfl | hp
    ·exact hx
    ·exact t3 p hp
   ·have hw0 : w ≤ 0 := by
     unfold lerp at hx
     by_cases h : w ≤ 0
     ·exact h
     ·have := Rat.mul_nonneg (a := t) (b := w) (by grind) (by grind)
      have := Rat.mul_nonneg (a := 1 - t) (b := u) (by grind) (by grind)
      grind
    obtain ⟨s, s1, s2, s3, s4⟩ := zero hw0
    have hst : s ≤ t := by
     rcases (Rat.le_total : s ≤ t ∨ _) with h | h
     ·exact h
     ·exfalso
      apply hx
      exact pos_at hu0 (by grind) h (by rw [s3]; grind)
    refine ⟨s, s1, s2, fun p hp => ?_, (u, w), by simp, hw0, s3⟩
    rcases List.mem_cons.1 hp with rfl | hp
    ·show 0 ≤ lerp s u w; rw [s3]; grind
    ·exact pos_at (huL p hp) (by grind) hst (t3 p hp)
  ·have hw0 : w ≤ 0 := by
    obtain ⟨p, hp, h⟩ := hw
    rcases List.mem_cons.1 hp with rfl | hp
    ·exact h
    ·exact absurd ⟨p, hp, h⟩ hL
   obtain ⟨s, s1, s2, s3, s4⟩ := zero hw0
   refine ⟨s, s1, s2, fun p hp => ?_, (u, w), by simp, hw0, s3⟩
   rcases List.mem_cons.1 hp with rfl | hp
   ·show 0 ≤ lerp s u w; rw [s3]; grind
   ·have h1 := huL p hp
    have h2 : 0 < p.2 := by
     rcases (by grind : p.2 ≤ 0 ∨ 0 < p.2) with h | h
     ·exact absurd ⟨p, hp, h⟩ hL
     ·exact h
    unfold lerp
    have := Rat.mul_nonneg (a := s) (b := p.2) (by grind) (by grind)
    have := Rat.mul_nonneg (a := 1 - s) (b := p.1) (by grind) (by grind)
    grind
theorem Hg (L : List (Rat × Rat)) (hu : ∀ p ∈ L, 0 < p.1) : ∃ e : Rat, 0 < e ∧ ∀ t, 0 ≤ t → t ≤ e → ∀ p ∈ L, 0 < p.1 + t * p.2 := by
 induction L with
 | nil => exact ⟨1, by grind, fun _ _ _ p hp => by simp at hp⟩
 | cons x L ih =>
  obtain ⟨u, k⟩ := x
  have hu0 : 0 < u := hu (u, k) (by simp)
  obtain ⟨e, e1, e2⟩ := ih (fun p hp => hu p (by simp [hp]))
  by_cases hk : 0 ≤ k
  ·refine ⟨e, e1, fun t t1 t2 p hp => ?_⟩
   rcases List.mem_cons.1 hp with rfl | hp
   ·have := Rat.mul_nonneg (a := t) (b := k) t1 hk
    show 0 < u + t * k; grind
   ·exact e2 t t1 t2 p hp
  ·have hd : 0 < -k * 2 := by grind
   have hi := Rat.mul_inv_cancel _ (Rat.ne_of_gt hd)
   have hj := Eu hd
   obtain ⟨m, hm1, hm2, hm3⟩ : ∃ m : Rat, 0 < m ∧ m ≤ e ∧ m ≤ u * (-k * 2)⁻¹ := by
    rcases (Rat.le_total : e ≤ u * (-k * 2)⁻¹ ∨ _) with h | h
    ·exact ⟨e, e1, by grind, h⟩
    ·exact ⟨u * (-k * 2)⁻¹, mpos hu0 hj, h, by grind⟩
   refine ⟨m, hm1, fun t t1 t2 p hp => ?_⟩
   rcases List.mem_cons.1 hp with rfl | hp
   ·show 0 < u + t * k
    generalize (-k * 2)⁻¹ = I at *
    have h1 := Rat.mul_nonneg (a := u * I - t) (b := -k * 2) (by grind) (by grind)
    have h2 : (u * I - t) * (-k * 2) = u * ((-k * 2) * I) - t * (-k * 2) := by grind
    rw [h2, hi] at h1
    grind
   ·exact e2 t t1 (by grind) p hp
structure LQ where
 a : Rat
 b : Rat
 c : Rat
deriving DecidableEq
def LQ.val (l : LQ) (p : Rat × Rat) : Rat := l.a * p.1 + l.b * p.2 + l.c
def LQ.ok (l : LQ) : Prop := 0 < l.a * l.a + l.b * l.b
def btw (t : Rat) (q p : Rat × Rat) : Rat × Rat := (q.1 + t * (p.1 - q.1), q.2 + t * (p.2 - q.2))
variable {l s : LQ} {p q x : Rat × Rat} {t : Rat}
theorem E4 : l.val (btw t q p) = lerp t (l.val q) (l.val p) := by unfold LQ.val btw lerp; grind
def Inn (C : List LQ) (p : Rat × Rat) : Prop := ∀ s ∈ C, 0 < s.val p
def Ez (C : List LQ) (s : LQ) (x : Rat × Rat) : Prop := s.val x = 0 ∧ ∀ r ∈ C, r ≠ s → 0 < r.val x
structure Proper (C : List LQ) : Prop where
 inn : ∃ q, Inn C q
 ok : ∀ s ∈ C, s.ok
 side : ∀ s ∈ C, ∃ x, Ez C s x
def Jo (C : List LQ) (l s : LQ) : Prop := ∃ x, Ez C s x ∧ 0 < l.val x
theorem K8 {u w : Rat} (h0 : 0 ≤ t) (h1 : t ≤ 1) (hu : 0 < u) (hw : 0 < w) : 0 < lerp t u w := by
 unfold lerp
 rcases (Rat.le_total : u ≤ w ∨ _) with h | h
 ·have := Rat.mul_nonneg (a := t) (b := w - u) h0 (by grind); grind
 ·have := Rat.mul_nonneg (a := 1 - t) (b := u - w) (by grind) (by grind); grind
variable {C C' : List LQ}
theorem Qeb (hC : Proper C) (hq : ∃ q, Inn C q ∧ 0 < l.val q) (hp : 0 < l.val p) (hk : ∀ s ∈ C, Jo C l s → 0 < s.val p) : Inn C p := by
 intro s hs
 rcases (by grind : 0 < s.val p ∨ s.val p ≤ 0) with h | h
 ·exact h
 exfalso
 obtain ⟨q, hq1, hq2⟩ := hq
 obtain ⟨t, t1, t2, t3, pr, hpr, h4, h5⟩ := Xm (C.map (fun r => (r.val q, r.val p))) (fun x hx => by
  obtain ⟨r, hr, rfl⟩ := List.mem_map.1 hx; exact hq1 r hr) ⟨_, List.mem_map.2 ⟨s, hs, rfl⟩, h⟩
 obtain ⟨r, hr, rfl⟩ := List.mem_map.1 hpr
 have hx1 : r.val (btw t q p) = 0 := by rw [E4]; exact h5
 have hx2 : ∀ r' ∈ C, 0 ≤ r'.val (btw t q p) := fun r' hr' => by rw [E4]; exact t3 _ (List.mem_map.2 ⟨r', hr', rfl⟩)
 have hx3 : 0 < l.val (btw t q p) := by rw [E4]; exact K8 (by grind) t2 hq2 hp
 generalize btw t q p = x at *
 obtain ⟨y, hy1, hy2⟩ := hC.side r hr
 obtain ⟨e, e1, e2⟩ := Hg [(l.val x, l.val y - l.val x)] (fun z hz => by
  obtain rfl := List.mem_singleton.1 hz; exact hx3)
 obtain ⟨d, d1, d2, d3⟩ : ∃ d : Rat, 0 < d ∧ d ≤ e ∧ d ≤ 1 := by
  rcases (Rat.le_total : e ≤ 1 ∨ _) with h | h
  ·exact ⟨e, e1, by grind, h⟩
  ·exact ⟨1, by grind, h, by grind⟩
 have hk2 : Jo C l r := by
  refine ⟨btw d x y, ⟨by rw [E4, hx1, hy1]; unfold lerp; grind, fun r' hr' hne => ?_⟩, ?_⟩
  ·rw [E4]
   have h6 := hx2 r' hr'
   have h7 := hy2 r' hr' hne
   unfold lerp
   have := mpos d1 h7
   have := Rat.mul_nonneg (a := 1 - d) (b := r'.val x) (by grind) h6
   grind
  ·rw [E4]; exact e2 d (by grind) d2 (l.val x, l.val y - l.val x) (by simp)
 have := hk r hr hk2
 grind
structure CutTo (C C' : List LQ) (l : LQ) : Prop where
 mem : ∀ s, s ∈ C' ↔ s = l ∨ (s ∈ C ∧ Jo C l s)
theorem CutTo.inn (h : CutTo C C' l) (hC : Proper C) (hq : ∃ q, Inn C q ∧ 0 < l.val q) (p : Rat × Rat) : Inn C' p ↔ Inn C p ∧ 0 < l.val p := by
 constructor
 ·intro hp
  have hl := hp l ((h.mem l).2 (.inl rfl))
  exact ⟨Qeb hC hq hl (fun s hs hk => hp s ((h.mem s).2 (.inr ⟨hs, hk⟩))), hl⟩
 ·rintro ⟨h1, h2⟩ s hs
  rcases (h.mem s).1 hs with rfl | ⟨hs, _⟩
  ·exact h2
  ·exact h1 s hs
theorem CutTo.proper (h : CutTo C C' l) (hC : Proper C) (hl : l.ok) (hq : ∃ q, Inn C q ∧ 0 < l.val q) (hv : ∃ x, l.val x = 0 ∧ Inn C x) : Proper C' := by
 refine ⟨?_, fun s hs => ?_, fun s hs => ?_⟩
 ·obtain ⟨q, h1, h2⟩ := hq; exact ⟨q, (h.inn hC ⟨q, h1, h2⟩ q).2 ⟨h1, h2⟩⟩
 ·rcases (h.mem s).1 hs with rfl | ⟨hs, _⟩
  ·exact hl
  ·exact hC.ok s hs
 ·rcases (h.mem s).1 hs with rfl | ⟨hs, x, hx, hx2⟩
  ·obtain ⟨x, h1, h2⟩ := hv
   refine ⟨x, h1, fun r hr hne => ?_⟩
   rcases (h.mem r).1 hr with rfl | ⟨hr, _⟩
   ·exact absurd rfl hne
   ·exact h2 r hr
  ·refine ⟨x, hx.1, fun r hr hne => ?_⟩
   rcases (h.mem r).1 hr with rfl | ⟨hr, _⟩
   ·exact hx2
   ·exact hx.2 r hr hne
theorem N3 (hl : l.ok) (h0 : l.val x = 0) (hx : Inn C x) : (∃ q, Inn C q ∧ 0 < l.val q) ∧ ∃ q, Inn C q ∧ l.val q < 0 := by
 have mv : ∀ (sg : Rat), ∃ e : Rat, 0 < e ∧ ∀ t, 0 ≤ t → t ≤ e → Inn C (x.1 + t * (sg * l.a), x.2 + t * (sg * l.b)) := fun sg => by
  obtain ⟨e, e1, e2⟩ := Hg (C.map (fun r => (r.val x, sg * (r.a * l.a + r.b * l.b)))) (fun z hz => by
   obtain ⟨r, hr, rfl⟩ := List.mem_map.1 hz; exact hx r hr)
  refine ⟨e, e1, fun t t1 t2 r hr => ?_⟩
  have := e2 t t1 t2 _ (List.mem_map.2 ⟨r, hr, rfl⟩)
  unfold LQ.val at *
  grind
 unfold LQ.ok at hl
 constructor
 ·obtain ⟨e, e1, e2⟩ := mv 1
  refine ⟨_, e2 e (by grind) (by grind), ?_⟩
  have := mpos e1 hl
  unfold LQ.val at *
  grind
 ·obtain ⟨e, e1, e2⟩ := mv (-1)
  refine ⟨_, e2 e (by grind) (by grind), ?_⟩
  have := mpos e1 hl
  unfold LQ.val at *
  grind
theorem CutTo.on (h : CutTo C C' l) (hC : Proper C) (hq : ∃ q, Inn C q ∧ 0 < l.val q) (hs : s ∈ C') (hok : s.ok) {y : Rat × Rat} (hy : s.val y = 0) (hy2 : ∀ r ∈ C, r ≠ s → 0 < r.val y)
  (hx : Ez C' s x) : ∀ r ∈ C, r ≠ s → 0 < r.val x := by
 intro r hr hne
 rcases (by grind : 0 < r.val x ∨ r.val x ≤ 0) with h0 | h0
 ·exact h0
 exfalso
 obtain ⟨e, e1, e2⟩ := Hg ((C'.filter (fun z => decide (z ≠ s))).map (fun z => (z.val x, z.val x - z.val y))) (fun z hz => by
  obtain ⟨w, hw, rfl⟩ := List.mem_map.1 hz
  have := List.mem_filter.1 hw
  exact hx.2 w this.1 (by simpa using this.2))
 have hx2 : ∀ z : LQ, z.val (btw (-e) x y) = z.val x + e * (z.val x - z.val y) := fun z => by rw [E4]; unfold lerp; grind
 have k1 : s.val (btw (-e) x y) = 0 := by rw [hx2, hx.1, hy]; grind
 have k2 : ∀ z ∈ C', z ≠ s → 0 < z.val (btw (-e) x y) := fun z hz hzs => by
  rw [hx2]; exact e2 e (by grind) (by grind) _ (List.mem_map.2 ⟨z, List.mem_filter.2 ⟨hz, by simpa using hzs⟩, rfl⟩)
 have k3 : r.val (btw (-e) x y) < 0 := by
  rw [hx2]
  have h1 := hy2 r hr hne
  have := mpos e1 (y := r.val y - r.val x) (by grind)
  grind
 generalize btw (-e) x y = u at *
 obtain ⟨d, d1, d2⟩ := Hg ((-r.val u, -(r.a * s.a + r.b * s.b)) :: (C'.filter (fun z => decide (z ≠ s))).map (fun z => (z.val u, z.a * s.a + z.b * s.b))) (fun z hz => by
  rcases List.mem_cons.1 hz with rfl | hz
  ·show 0 < -r.val u; grind
  ·obtain ⟨w, hw, rfl⟩ := List.mem_map.1 hz
   have := List.mem_filter.1 hw
   exact k2 w this.1 (by simpa using this.2))
 have hp : ∀ z : LQ, z.val (u.1 + d * s.a, u.2 + d * s.b) = z.val u + d * (z.a * s.a + z.b * s.b) := fun z => by unfold LQ.val; grind
 have hin : Inn C' (u.1 + d * s.a, u.2 + d * s.b) := fun z hz => by
  rw [hp]
  by_cases hzs : z = s
  ·subst hzs
   unfold LQ.ok at hok
   have := mpos d1 hok
   rw [k1]; grind
  ·exact d2 d (by grind) (by grind) _ (List.mem_cons_of_mem _ (List.mem_map.2 ⟨z, List.mem_filter.2 ⟨hz, by simpa using hzs⟩, rfl⟩))
 have h1 := ((h.inn hC hq _).1 hin).1 r hr
 rw [hp] at h1
 have h2 := d2 d (by grind) (by grind) (-r.val u, -(r.a * s.a + r.b * s.b)) (by simp)
 grind
theorem CutTo.side_kept (h : CutTo C C' l) (hC : Proper C) (hq : ∃ q, Inn C q ∧ 0 < l.val q) (hs : s ∈ C) (hk : Jo C l s) : Ez C' s x ↔ Ez C s x ∧ 0 < l.val x := by
 obtain ⟨y, hy, hy2⟩ := hk
 have hls : l ≠ s := fun e => by rw [e, hy.1] at hy2; grind
 have hs' : s ∈ C' := (h.mem s).2 (.inr ⟨hs, y, hy, hy2⟩)
 constructor
 ·intro hx; exact ⟨⟨hx.1, h.on hC hq hs' (hC.ok s hs) hy.1 hy.2 hx⟩, hx.2 l ((h.mem l).2 (.inl rfl)) hls⟩
 ·rintro ⟨hx, hl⟩
  refine ⟨hx.1, fun r hr hne => ?_⟩
  rcases (h.mem r).1 hr with rfl | ⟨hr, _⟩
  ·exact hl
  ·exact hx.2 r hr hne
theorem CutTo.side_new (h : CutTo C C' l) (hC : Proper C) (hl : l.ok) (hq : ∃ q, Inn C q ∧ 0 < l.val q) (hv : ∃ x, l.val x = 0 ∧ Inn C x) : Ez C' l x ↔ l.val x = 0 ∧ Inn C x := by
 obtain ⟨y, hy, hy2⟩ := hv
 have hlC : l ∉ C := fun hc => by have := hy2 l hc; grind
 constructor
 ·intro hx
  exact ⟨hx.1, fun r hr => h.on hC hq ((h.mem l).2 (.inl rfl)) hl hy (fun r hr _ => hy2 r hr) hx r hr (fun e => hlC (e ▸ hr))⟩
 ·rintro ⟨h1, h2⟩
  refine ⟨h1, fun r hr hne => ?_⟩
  rcases (h.mem r).1 hr with rfl | ⟨hr, _⟩
  ·exact absurd rfl hne
  ·exact h2 r hr
theorem Uw (h : ∀ x, l.val x = 0 → ¬ Inn C x) (hp : Inn C p) (hq : Inn C q) (h1 : 0 < l.val p) : 0 < l.val q := by
 rcases (by grind : 0 < l.val q ∨ l.val q ≤ 0) with h2 | h2
 ·exact h2
 exfalso
 obtain ⟨t, t1, t2, _, z, hz, _, t3⟩ := Xm [(l.val p, l.val q)] (fun z hz => by obtain rfl := List.mem_singleton.1 hz; exact h1) ⟨_, List.mem_singleton.2 rfl, h2⟩
 obtain rfl := List.mem_singleton.1 hz
 refine h (btw t p q) (by rw [E4]; exact t3) (fun s hs => ?_)
 rw [E4]; exact K8 (by grind) t2 (hp s hs) (hq s hs)
theorem Inn.btw (h0 : 0 ≤ t) (h1 : t ≤ 1) (hp : Inn C p) (hq : Inn C q) : Inn C (btw t p q) := fun s hs => by
 rw [E4]; exact K8 h0 h1 (hp s hs) (hq s hs)
def rev (l : LQ) : LQ := ⟨-l.a, -l.b, -l.c⟩
theorem Cp : (rev l).val p = -l.val p := by unfold rev LQ.val; grind
theorem Qn0 (h : l.ok) : (rev l).ok := by unfold rev LQ.ok at *; grind
theorem Un (hq : Inn C q) : ∀ (L : List LQ), (∀ l ∈ L, l.ok) → ∃ p, Inn C p ∧ ∀ l ∈ L, l.val p ≠ 0 := by
 intro L
 induction L with
 | nil => exact fun _ => ⟨q, hq, fun l hl => by simp at hl⟩
 | cons l L ih =>
  intro hok; obtain ⟨p, h1, h2⟩ := ih (fun m hm => hok m (by simp [hm]))
  by_cases h0 : l.val p = 0
  ·have hI : Inn (C ++ L.map (fun m => if 0 < m.val p then m else rev m)) p := fun s hs => by
    rcases List.mem_append.1 hs with hs | hs
    ·exact h1 s hs
    ·obtain ⟨m, hm, rfl⟩ := List.mem_map.1 hs
     have := h2 m hm
     split
     ·assumption
     ·rw [Cp]; grind
   obtain ⟨⟨u, hu, hu2⟩, _⟩ := N3 (hok l (by simp)) h0 hI
   refine ⟨u, fun s hs => hu s (List.mem_append.2 (.inl hs)), fun m hm => ?_⟩
   rcases List.mem_cons.1 hm with rfl | hm
   ·grind
   ·have h3 := hu _ (List.mem_append.2 (.inr (List.mem_map.2 ⟨m, hm, rfl⟩)))
    split at h3
    ·grind
    ·rw [Cp] at h3; grind
  ·refine ⟨p, h1, fun m hm => ?_⟩
   rcases List.mem_cons.1 hm with rfl | hm
   ·exact h0
   ·exact h2 m hm
inductive Tr
 | leaf (b : Bool)
 | node (l : LQ) (x y : Tr)
namespace Tr
def lines : Tr → List LQ
 | leaf _ => []
 | node l x y => l :: (x.lines ++ y.lines)
def at' : Tr → Rat × Rat → Bool
 | leaf b, _ => b
 | node l x y, p => if 0 < l.val p then x.at' p else y.at' p
def Off (t : Tr) (p : Rat × Rat) : Prop := ∀ l ∈ t.lines, l.val p ≠ 0
def compl : Tr → Tr
 | leaf b => leaf (!b)
 | node l x y => node l x.compl y.compl
def join (l : LQ) (x y : Tr) : Tr := match x, y with
 | leaf a, leaf b => if a = b then leaf a else node l (leaf a) (leaf b)
 | x, y => node l x y
open Classical in
noncomputable def restr : Tr → List LQ → Tr
 | leaf b, _ => leaf b
 | node l x y, C => if ¬ ∃ q, Inn C q ∧ l.val q < 0 then x.restr C else if ¬ ∃ q, Inn C q ∧ 0 < l.val q then y.restr C else join l (x.restr (l :: C)) (y.restr (rev l :: C))
open Classical in
noncomputable def mer : Tr → Tr → List LQ → Tr
 | leaf a, b, C => if a then (b.restr C).compl else b.restr C
 | node l x y, b, C => if ¬ ∃ q, Inn C q ∧ l.val q < 0 then x.mer b C else if ¬ ∃ q, Inn C q ∧ 0 < l.val q then y.mer b C else join l (x.mer b (l :: C)) (y.mer b (rev l :: C))
variable {l : LQ} {p : Rat × Rat}
theorem inn_cons {C : List LQ} : Inn (l :: C) p ↔ 0 < l.val p ∧ Inn C p := by
 constructor
 ·exact fun h => ⟨h l (by simp), fun s hs => h s (by simp [hs])⟩
 ·rintro ⟨h1, h2⟩ s hs
  rcases List.mem_cons.1 hs with rfl | hs
  ·exact h1
  ·exact h2 s hs
variable {t x y : Tr}
theorem off_node (h : (node l x y).Off p) : l.val p ≠ 0 ∧ x.Off p ∧ y.Off p :=
 ⟨h l (by simp [lines]), fun m hm => h m (by simp [lines, hm]), fun m hm => h m (by simp [lines, hm])⟩
theorem join_leaf {b : Bool} (hx : x = leaf b) (hy : y = leaf b) : join l x y = leaf b := by subst hx; subst hy; simp [join]
theorem restr_leaf : ∀ {C : List LQ} {b : Bool}, (∃ q, Inn C q) → (∀ l ∈ t.lines, l.ok) → (∀ p, Inn C p → t.Off p → t.at' p = b) → t.restr C = leaf b := by
 induction t with
 | leaf a =>
  rintro C b ⟨q, hq⟩ _ h
  have := h q hq (fun l hl => by simp [lines] at hl)
  show leaf a = leaf b
  rw [show a = b from this]
 | node l x y ihx ihy =>
  rintro C b ⟨q, hq⟩ hok h
  have hox : ∀ m ∈ x.lines, m.ok := fun m hm => hok m (by simp [lines, hm])
  have hoy : ∀ m ∈ y.lines, m.ok := fun m hm => hok m (by simp [lines, hm])
  have hl : l.ok := hok l (by simp [lines])
  have ext : ∀ (z : Tr) (sgn : Bool), (∀ m ∈ z.lines, m.ok) → ∀ D : List LQ, (∀ p, Inn D p → (∀ m ∈ (node l x y).lines, m.val p ≠ 0) → z.at' p = b) → ∀ p, Inn D p → z.Off p → z.at' p = b := by
   intro z _ hz D hD p hp ho
   have hI : Inn (D ++ z.lines.map (fun m => if 0 < m.val p then m else rev m)) p := fun s hs => by
    rcases List.mem_append.1 hs with hs | hs
    ·exact hp s hs
    ·obtain ⟨m, hm, rfl⟩ := List.mem_map.1 hs
     have := ho m hm
     split
     ·assumption
     ·rw [Cp]; grind
   obtain ⟨u, hu, hu2⟩ := Un hI _ hok
   have hs : ∀ m ∈ z.lines, (0 < m.val u ↔ 0 < m.val p) := fun m hm => by
    have h3 := hu _ (List.mem_append.2 (.inr (List.mem_map.2 ⟨m, hm, rfl⟩)))
    split at h3
    ·next h4 => exact ⟨fun _ => h4, fun _ => h3⟩
    ·next h4 => rw [Cp] at h3; exact ⟨fun h5 => by grind, fun h5 => absurd h5 h4⟩
   have same : ∀ w : Tr, (∀ m ∈ w.lines, (0 < m.val u ↔ 0 < m.val p)) → w.at' u = w.at' p := fun w => by
    induction w with
    | leaf a => exact fun _ => rfl
    | node m w1 w2 i1 i2 =>
     intro hw
     have h1 := i1 (fun k hk => hw k (by simp [lines, hk]))
     have h2 := i2 (fun k hk => hw k (by simp [lines, hk]))
     have h3 := hw m (by simp [lines])
     simp only [at', h1, h2, h3]
   rw [← same z hs]; exact hD u (fun s hs => hu s (List.mem_append.2 (.inl hs))) hu2
  unfold restr
  by_cases h1 : ∃ q, Inn C q ∧ l.val q < 0
  ·rw [if_neg (not_not_intro h1)]
   by_cases h2 : ∃ q, Inn C q ∧ 0 < l.val q
   ·rw [if_neg (not_not_intro h2)]; obtain ⟨q1, a1, a2⟩ := h1; obtain ⟨q2, b1, b2⟩ := h2
    refine join_leaf (ihx ⟨q2, inn_cons.2 ⟨b2, b1⟩⟩ hox (ext x true hox _ (fun p hp ho => ?_))) (ihy ⟨q1, inn_cons.2 ⟨by rw [Cp]; grind, a1⟩⟩ hoy (ext y true hoy _ (fun p hp ho => ?_)))
    ·have := h p (inn_cons.1 hp).2 ho
     rw [← this]; simp only [at']; rw [if_pos (inn_cons.1 hp).1]
    ·have := h p (inn_cons.1 hp).2 ho
     have h3 := (inn_cons.1 hp).1
     rw [Cp] at h3; rw [← this]; simp only [at']; rw [if_neg (by grind)]
   ·rw [if_pos h2]
    refine ihy ⟨q, hq⟩ hoy (ext y true hoy _ (fun p hp ho => ?_))
    have := h p hp ho
    rw [← this]; simp only [at']; rw [if_neg (fun h3 => h2 ⟨p, hp, h3⟩)]
  ·rw [if_pos h1]
   refine ihx ⟨q, hq⟩ hox (ext x true hox _ (fun p hp ho => ?_))
   have := h p hp ho
   have h3 := ho l (by simp [lines])
   rw [← this]; simp only [at']; rw [if_pos (by
    rcases (by grind : 0 < l.val p ∨ l.val p < 0) with h4 | h4
    ·exact h4
    ·exact absurd ⟨p, hp, h4⟩ h1)]
theorem ext_off {K L : List LQ} {D : List LQ} {P : Rat × Rat → Prop} (hK : ∀ l ∈ L, l.ok) (hP : ∀ u p, (∀ m ∈ K, (0 < m.val u ↔ 0 < m.val p)) → P u → P p)
  (hD : ∀ p, Inn D p → (∀ m ∈ L, m.val p ≠ 0) → P p) : ∀ p, Inn D p → (∀ m ∈ K, m.val p ≠ 0) → P p := by
 intro p hp ho
 have hI : Inn (D ++ K.map (fun m => if 0 < m.val p then m else rev m)) p := fun s hs => by
  rcases List.mem_append.1 hs with hs | hs
  ·exact hp s hs
  ·obtain ⟨m, hm, rfl⟩ := List.mem_map.1 hs
   have := ho m hm
   split
   ·assumption
   ·rw [Cp]; grind
 obtain ⟨u, hu, hu2⟩ := Un hI L hK
 refine hP u p (fun m hm => ?_) (hD u (fun s hs => hu s (List.mem_append.2 (.inl hs))) hu2)
 have h3 := hu _ (List.mem_append.2 (.inr (List.mem_map.2 ⟨m, hm, rfl⟩)))
 split at h3
 ·next h4 => exact ⟨fun _ => h4, fun _ => h3⟩
 ·next h4 => rw [Cp] at h3; exact ⟨fun h5 => by grind, fun h5 => absurd h5 h4⟩
theorem same_at {u : Rat × Rat} : ∀ w : Tr, (∀ m ∈ w.lines, (0 < m.val u ↔ 0 < m.val p)) → w.at' u = w.at' p := fun w => by
 induction w with
 | leaf a => exact fun _ => rfl
 | node m w1 w2 i1 i2 =>
  intro hw
  have h1 := i1 (fun k hk => hw k (by simp [lines, hk]))
  have h2 := i2 (fun k hk => hw k (by simp [lines, hk]))
  have h3 := hw m (by simp [lines])
  simp only [at', h1, h2, h3]
theorem mer_leaf {b : Tr} (hb : ∀ l ∈ b.lines, l.ok) {a : Tr} : ∀ {C : List LQ} {v : Bool}, (∃ q, Inn C q) → (∀ l ∈ a.lines, l.ok) → (∀ p, Inn C p → a.Off p → b.Off p → (a.at' p ^^ b.at' p) = v) → a.mer b C = leaf v := by
 induction a with
 | leaf i =>
  rintro C v hq _ h
  have hc : b.restr C = leaf (i ^^ v) := restr_leaf hq hb (fun p hp ho => by
   have := h p hp (fun l hl => by simp [lines] at hl) ho
   simp only [at'] at this
   rw [← this]; simp)
  unfold mer; rw [hc]
  cases i <;> simp [compl]
 | node l x y ihx ihy =>
  rintro C v ⟨q, hq⟩ hok h
  have hox : ∀ m ∈ x.lines, m.ok := fun m hm => hok m (by simp [lines, hm])
  have hoy : ∀ m ∈ y.lines, m.ok := fun m hm => hok m (by simp [lines, hm])
  have hall : ∀ m ∈ (node l x y).lines ++ b.lines, m.ok := fun m hm => by
   rcases List.mem_append.1 hm with hm | hm
   ·exact hok m hm
   ·exact hb m hm
  have ext : ∀ (z : Tr) (D : List LQ), (∀ p, Inn D p → (node l x y).Off p → b.Off p → (z.at' p ^^ b.at' p) = v) → ∀ p, Inn D p → z.Off p → b.Off p → (z.at' p ^^ b.at' p) = v := by
   intro z D hD p hp hz hbp
   refine ext_off (K := z.lines ++ b.lines) (L := (node l x y).lines ++ b.lines) (D := D) (P := fun p => (z.at' p ^^ b.at' p) = v) hall (fun u p hs hu => ?_) (fun p hp ho => ?_) p hp (fun m hm => ?_)
   ·show (z.at' p ^^ b.at' p) = v
    rw [← same_at z (fun m hm => hs m (List.mem_append.2 (.inl hm))), ← same_at b (fun m hm => hs m (List.mem_append.2 (.inr hm)))]; exact hu
   ·exact hD p hp (fun m hm => ho m (List.mem_append.2 (.inl hm))) (fun m hm => ho m (List.mem_append.2 (.inr hm)))
   ·rcases List.mem_append.1 hm with hm | hm
    ·exact hz m hm
    ·exact hbp m hm
  unfold mer
  by_cases h1 : ∃ q, Inn C q ∧ l.val q < 0
  ·rw [if_neg (not_not_intro h1)]
   by_cases h2 : ∃ q, Inn C q ∧ 0 < l.val q
   ·rw [if_neg (not_not_intro h2)]; obtain ⟨q1, a1, a2⟩ := h1; obtain ⟨q2, b1, b2⟩ := h2
    refine join_leaf (ihx ⟨q2, inn_cons.2 ⟨b2, b1⟩⟩ hox (ext x _ (fun p hp ho hbp => ?_))) (ihy ⟨q1, inn_cons.2 ⟨by rw [Cp]; grind, a1⟩⟩ hoy (ext y _ (fun p hp ho hbp => ?_)))
    ·have := h p (inn_cons.1 hp).2 ho hbp
     rw [← this]; simp only [at']; rw [if_pos (inn_cons.1 hp).1]
    ·have := h p (inn_cons.1 hp).2 ho hbp
     have h3 := (inn_cons.1 hp).1
     rw [Cp] at h3; rw [← this]; simp only [at']; rw [if_neg (by grind)]
   ·rw [if_pos h2]
    refine ihy ⟨q, hq⟩ hoy (ext y _ (fun p hp ho hbp => ?_))
    have := h p hp ho hbp
    rw [← this]; simp only [at']; rw [if_neg (fun h3 => h2 ⟨p, hp, h3⟩)]
  ·rw [if_pos h1]
   refine ihx ⟨q, hq⟩ hox (ext x _ (fun p hp ho hbp => ?_))
   have := h p hp ho hbp
   have h3 := ho l (by simp [lines])
   rw [← this]; simp only [at']; rw [if_pos (by
    rcases (by grind : 0 < l.val p ∨ l.val p < 0) with h4 | h4
    ·exact h4
    ·exact absurd ⟨p, hp, h4⟩ h1)]
theorem join_lines : ∀ m ∈ (join l x y).lines, m = l ∨ m ∈ x.lines ∨ m ∈ y.lines := by
 intro m hm; unfold join at hm
 split at hm
 ·split at hm
  ·simp [lines] at hm
  ·simp only [lines, List.append_nil, List.mem_cons, List.not_mem_nil, or_false] at hm; exact .inl hm
 ·simp only [lines, List.mem_cons, List.mem_append] at hm; exact hm
theorem join_at : (join l x y).at' p = if 0 < l.val p then x.at' p else y.at' p := by
 unfold join
 split
 ·next a b =>
  split
  ·next h => subst h; simp [at']
  ·rfl
 ·rfl
theorem restr_lines : ∀ {C : List LQ}, ∀ m ∈ (t.restr C).lines, m ∈ t.lines := by
 induction t with
 | leaf b => exact fun m hm => hm
 | node l x y ihx ihy =>
  intro C m hm; unfold restr at hm
  split at hm
  ·simp [lines, ihx m hm]
  ·split at hm
   ·simp [lines, ihy m hm]
   ·rcases join_lines m hm with h | h | h
    ·simp [lines, h]
    ·simp [lines, ihx m h]
    ·simp [lines, ihy m h]
theorem restr_at : ∀ {C : List LQ} {p : Rat × Rat}, Inn C p → t.Off p → (t.restr C).at' p = t.at' p := by
 induction t with
 | leaf b => exact fun _ _ => rfl
 | node l x y ihx ihy =>
  intro C p hp ho; obtain ⟨h0, hx, hy⟩ := off_node ho; unfold restr
  by_cases h1 : ∃ q, Inn C q ∧ l.val q < 0
  ·rw [if_neg (not_not_intro h1)]
   by_cases h2 : ∃ q, Inn C q ∧ 0 < l.val q
   ·rw [if_neg (not_not_intro h2), join_at]; simp only [at']
    by_cases h3 : 0 < l.val p
    ·rw [if_pos h3, if_pos h3, ihx (inn_cons.2 ⟨h3, hp⟩) hx]
    ·rw [if_neg h3, if_neg h3, ihy (inn_cons.2 ⟨by rw [Cp]; grind, hp⟩) hy]
   ·rw [if_pos h2, ihy hp hy]; simp only [at']; rw [if_neg (fun h3 => h2 ⟨p, hp, h3⟩)]
  ·rw [if_pos h1, ihx hp hx]
   simp only [at']; rw [if_pos (by
    rcases (by grind : 0 < l.val p ∨ l.val p < 0) with h4 | h4
    ·exact h4
    ·exact absurd ⟨p, hp, h4⟩ h1)]
def depth : Tr → Nat
 | leaf _ => 0
 | node _ x y => 1 + max x.depth y.depth
def size : Tr → Nat
 | leaf _ => 0
 | node _ x y => 1 + (x.size + y.size)
theorem join_depth : (join l x y).depth ≤ 1 + max x.depth y.depth := by
 unfold join
 split
 ·split
  ·simp [depth]
  ·simp [depth]
 ·exact Nat.le_refl _
theorem restr_depth : ∀ {C : List LQ}, (t.restr C).depth ≤ t.depth := by
 induction t with
 | leaf b => exact Nat.le_refl _
 | node l x y ihx ihy =>
  intro C; unfold restr
  have h1 := ihx (C := C)
  have h2 := ihy (C := C)
  have h3 := ihx (C := l :: C)
  have h4 := ihy (C := rev l :: C)
  split
  ·simp only [depth]; omega
  ·split
   ·simp only [depth]; omega
   ·have := join_depth (l := l) (x := x.restr (l :: C)) (y := y.restr (rev l :: C))
    simp only [depth]; omega
end Tr
end Cel
end Go.Proofs.YtpnpnlmlamfpmaaGreatDoor
