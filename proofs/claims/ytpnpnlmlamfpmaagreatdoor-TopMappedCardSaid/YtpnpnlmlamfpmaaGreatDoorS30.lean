import Derived.Test.YtpnpnlmlamfpmaaGreatDoorS29
namespace Go.Proofs.YtpnpnlmlamfpmaaGreatDoor
open Go.RowKit
set_option linter.unusedSimpArgs false
set_option linter.unusedVariables false
set_option maxRecDepth 100000
section
set_option maxHeartbeats 4000000
set_option synthInstance.maxHeartbeats 1000000
set_option synthInstance.maxSize 100000
open Go.RowKit Cel
structure QW where
 g : Bool
 a : Option Addr
 l : Nat
 c : Nat
 b : Option Addr
 m : Nat
 d : Nat
structure MW where
 a : QW
 b : QW
 c : QW
 d : QW
 e : QW
 f : QW
structure AW where
 p : PV
 q : PV
 r : PV
class Mk (W : World) (v : MW) (m : outParam Aff) : Prop where
 a : CA W (.agg #[.bool v.a.g, .slice v.a.a v.a.l v.a.c, .slice v.a.b v.a.m v.a.d]) m.A 20
 b : CA W (.agg #[.bool v.b.g, .slice v.b.a v.b.l v.b.c, .slice v.b.b v.b.m v.b.d]) m.B 20
 c : CA W (.agg #[.bool v.c.g, .slice v.c.a v.c.l v.c.c, .slice v.c.b v.c.m v.c.d]) m.C 20
 d : CA W (.agg #[.bool v.d.g, .slice v.d.a v.d.l v.d.c, .slice v.d.b v.d.m v.d.d]) m.D 20
 e : CA W (.agg #[.bool v.e.g, .slice v.e.a v.e.l v.e.c, .slice v.e.b v.e.m v.e.d]) m.E 20
 f : CA W (.agg #[.bool v.f.g, .slice v.f.a v.f.l v.f.c, .slice v.f.b v.f.m v.f.d]) m.F 20
class Ak (W : World) (v : AW) (m : outParam Aff) : Prop where
 a : CF W (.agg #[.int .i64 v.p.x.n, .int .i64 v.p.x.d, .pointer v.p.x.p]) m.A 22
 d : CF W (.agg #[.int .i64 v.p.y.n, .int .i64 v.p.y.d, .pointer v.p.y.p]) m.D 22
 b : CF W (.agg #[.int .i64 v.q.x.n, .int .i64 v.q.x.d, .pointer v.q.x.p]) m.B 22
 e : CF W (.agg #[.int .i64 v.q.y.n, .int .i64 v.q.y.d, .pointer v.q.y.p]) m.E 22
 c : CF W (.agg #[.int .i64 v.r.x.n, .int .i64 v.r.x.d, .pointer v.r.x.p]) m.C 22
 f : CF W (.agg #[.int .i64 v.r.y.n, .int .i64 v.r.y.d, .pointer v.r.y.p]) m.F 22
variable {W W2 w : World} {o : Obj}
instance Mk.al {v : MW} {m : Aff}  [h : Mk W v m] : Mk (W.alloc o) v m := ⟨by have := h.a; exact ii, by have := h.b; exact ii, by have := h.c; exact ii, by have := h.d; exact ii, by have := h.e; exact ii, by have := h.f; exact ii⟩
instance Mk.dr {v : MW} {m : Aff}   [h : Mk W v m] : Mk W.drew v m := ⟨by have := h.a; exact ii, by have := h.b; exact ii, by have := h.c; exact ii, by have := h.d; exact ii, by have := h.e; exact ii, by have := h.f; exact ii⟩
instance (priority := low) Mk.kp {v : MW} {m : Aff} [kb : Kp1 W W2] [h : Mk W v m] : Mk W2 v m := ⟨by have := h.a; exact ii, by have := h.b; exact ii, by have := h.c; exact ii, by have := h.d; exact ii, by have := h.e; exact ii, by have := h.f; exact ii⟩
variable {v : AW}
instance Ak.al {m : Aff}  [h : Ak W v m] : Ak (W.alloc o) v m := ⟨by have := h.a; exact ii, by have := h.d; exact ii, by have := h.b; exact ii, by have := h.e; exact ii, by have := h.c; exact ii, by have := h.f; exact ii⟩
instance Ak.dr {m : Aff}   [h : Ak W v m] : Ak W.drew v m := ⟨by have := h.a; exact ii, by have := h.d; exact ii, by have := h.b; exact ii, by have := h.e; exact ii, by have := h.c; exact ii, by have := h.f; exact ii⟩
instance (priority := low) Ak.kp {m : Aff} [kb : Kp1 W W2] [h : Ak W v m] : Ak W2 v m := ⟨by have := h.a; exact ii, by have := h.d; exact ii, by have := h.b; exact ii, by have := h.e; exact ii, by have := h.c; exact ii, by have := h.f; exact ii⟩
instance (priority := low) Ak.apn {m : Aff} [kb : Apn W W2] [h : Ak W v m] : Ak W2 v m := ⟨by have := h.a; exact ii, by have := h.d; exact ii, by have := h.b; exact ii, by have := h.e; exact ii, by have := h.c; exact ii, by have := h.f; exact ii⟩
instance boxT_m : BoxT 52 := by constructor <;> decide
instance boxT_af : BoxT 100 := by constructor <;> decide
def Zg (w : World) (m : Aff) (e : Ending) (w' : World) : Prop := ∃ v : AW, e = .returned (.agg #[.int .i64 v.p.x.n, .int .i64 v.p.x.d, .pointer v.p.x.p, .int .i64 v.p.y.n, .int .i64 v.p.y.d, .pointer v.p.y.p, .int .i64 v.q.x.n, .int .i64 v.q.x.d, .pointer v.q.x.p, .int .i64 v.q.y.n, .int .i64 v.q.y.d, .pointer v.q.y.p, .int .i64 v.r.x.n, .int .i64 v.r.x.d, .pointer v.r.x.p, .int .i64 v.r.y.n, .int .i64 v.r.y.d, .pointer v.r.y.p]) ∧ Ak w' v m ∧ Below w.heap.size w w'
variable {K : Ending → World → Prop} {P : Program} {args : Array Value}
theorem S8 {f : FuncId} {m : Aff} (h : Calls P f args w (Zg w m))
  (hK : ∀ w' [Kp1 w w'] (v : AW) [Ak w' v m], K (.returned (.agg #[.int .i64 v.p.x.n, .int .i64 v.p.x.d, .pointer v.p.x.p, .int .i64 v.p.y.n, .int .i64 v.p.y.d, .pointer v.p.y.p, .int .i64 v.q.x.n, .int .i64 v.q.x.d, .pointer v.q.x.p, .int .i64 v.q.y.n, .int .i64 v.q.y.d, .pointer v.q.y.p, .int .i64 v.r.x.n, .int .i64 v.r.x.d, .pointer v.r.x.p, .int .i64 v.r.y.n, .int .i64 v.r.y.d, .pointer v.r.y.p])) w') : Calls P f args w K := by
 refine h.mono ?_
 rintro e w' ⟨v, rfl, h1, h2⟩
 exact @hK w' ⟨h2⟩ v h1
def X4 (w : World) (m : Aff) (e : Ending) (w' : World) : Prop := ∃ v : AW, e = .returned (.tuple #[.agg #[.int .i64 v.p.x.n, .int .i64 v.p.x.d, .pointer v.p.x.p, .int .i64 v.p.y.n, .int .i64 v.p.y.d, .pointer v.p.y.p, .int .i64 v.q.x.n, .int .i64 v.q.x.d, .pointer v.q.x.p, .int .i64 v.q.y.n, .int .i64 v.q.y.d, .pointer v.q.y.p, .int .i64 v.r.x.n, .int .i64 v.r.x.d, .pointer v.r.x.p, .int .i64 v.r.y.n, .int .i64 v.r.y.d, .pointer v.r.y.p], .nilIface]) ∧ Ak w' v m ∧ Below w.heap.size w w'
theorem So {f : FuncId} {m : Aff} (h : Calls P f args w (X4 w m))
  (hK : ∀ w' [Kp1 w w'] (v : AW) [Ak w' v m], K (.returned (.tuple #[.agg #[.int .i64 v.p.x.n, .int .i64 v.p.x.d, .pointer v.p.x.p, .int .i64 v.p.y.n, .int .i64 v.p.y.d, .pointer v.p.y.p, .int .i64 v.q.x.n, .int .i64 v.q.x.d, .pointer v.q.x.p, .int .i64 v.q.y.n, .int .i64 v.q.y.d, .pointer v.q.y.p, .int .i64 v.r.x.n, .int .i64 v.r.x.d, .pointer v.r.x.p, .int .i64 v.r.y.n, .int .i64 v.r.y.d, .pointer v.r.y.p], .nilIface])) w') : Calls P f args w K := by
 refine h.mono ?_
 rintro e w' ⟨v, rfl, h1, h2⟩
 exact @hK w' ⟨h2⟩ v h1
theorem Xw {v : MW} {m : Aff} [h : Mk w v m] : Calls Tryz.prog 53 #[.agg #[.bool v.a.g, .slice v.a.a v.a.l v.a.c, .slice v.a.b v.a.m v.a.d, .bool v.b.g, .slice v.b.a v.b.l v.b.c, .slice v.b.b v.b.m v.b.d, .bool v.c.g, .slice v.c.a v.c.l v.c.c, .slice v.c.b v.c.m v.c.d, .bool v.d.g, .slice v.d.a v.d.l v.d.c, .slice v.d.b v.d.m v.d.d, .bool v.e.g, .slice v.e.a v.e.l v.e.c, .slice v.e.b v.e.m v.e.d, .bool v.f.g, .slice v.f.a v.f.l v.f.c, .slice v.f.b v.f.m v.f.d]] w (Zg w m) := by
 have := h.a; have := h.b; have := h.c; have := h.d; have := h.e; have := h.f
 go_enter Tryz.func53, Tryz.ntmps53; go_wp2_with fail; refine rgn [w.heap.size + 1] [] fun hH => ?_; refine tk 0 hH ?_; refine tk 1 hH ?_; refine tk 3 hH ?_; refine tk 4 hH ?_; refine tk 7 hH ?_; refine tk 8 hH ?_; refine tk 10 hH ?_; refine tk 11 hH ?_; refine tk 14 hH ?_; refine tk 15 hH ?_; refine tk 17 hH ?_; refine tk 18 hH (st 2 fun K hK => ?_); go_simp; (with_reducible refine Ab (ofC (by omega)) ?_); intros; refine hd hK fun hH => st 5 fun K hK => ?_; go_simp; (with_reducible refine Ab (ofC (by omega)) ?_); intros; refine hd hK fun hH => ?_; refine tk 6 hH (st 9 fun K hK => ?_); go_simp; (with_reducible refine Ab (ofC (by omega)) ?_); intros; refine hd hK fun hH => st 12 fun K hK => ?_; go_simp; (with_reducible refine Ab (ofC (by omega)) ?_); intros; refine hd hK fun hH => ?_; refine tk 13 hH (st 16 fun K hK => ?_); go_simp; (with_reducible refine Ab (ofC (by omega)) ?_); intros; refine hd hK fun hH => st 19 fun K hK => ?_; go_simp; (with_reducible refine Ab (ofC (by omega)) ?_); intros; refine hd hK fun hH => ?_; refine tk 20 hH ?_; refine tk 21 hH (st 22 fun K hK => ?_); go_simp; refine hd hK fun hH => dn ?_; clear hH; go_wp2_with fail; refine Ac rfl Tryz.underlying100 rfl (by kernel_rfl) rfl rfl rfl ?_; exact ⟨⟨⟨⟨_, _, _⟩, ⟨_, _, _⟩⟩, ⟨⟨_, _, _⟩, ⟨_, _, _⟩⟩, ⟨⟨_, _, _⟩, ⟨_, _, _⟩⟩⟩, rfl, ⟨ii, ii, ii, ii, ii, ii⟩, (ii : Kp w _).out⟩
theorem Ue {m : Aff} [h : Ak w v m] : Calls Tryz.prog 79 #[.agg #[.int .i64 v.p.x.n, .int .i64 v.p.x.d, .pointer v.p.x.p, .int .i64 v.p.y.n, .int .i64 v.p.y.d, .pointer v.p.y.p, .int .i64 v.q.x.n, .int .i64 v.q.x.d, .pointer v.q.x.p, .int .i64 v.q.y.n, .int .i64 v.q.y.d, .pointer v.q.y.p, .int .i64 v.r.x.n, .int .i64 v.r.x.d, .pointer v.r.x.p, .int .i64 v.r.y.n, .int .i64 v.r.y.d, .pointer v.r.y.p]] w (Bk w m.det 100) := by
 have := h.a; have := h.b; have := h.c; have := h.d; have := h.e; have := h.f
 go_enter Tryz.func79, Tryz.ntmps79
 go_wp2_with (first | (go_at_call 119; go_loud (with_reducible refine Ab (Gt (by decide)) ?_); intros))
 refine Ac rfl Tryz.underlying96 rfl (by kernel_rfl) rfl rfl rfl ?_; exact Bk.fin rfl (by omega)
end
section
set_option maxHeartbeats 4000000
set_option synthInstance.maxHeartbeats 1000000
set_option synthInstance.maxSize 100000
open Go.RowKit Cel
theorem AW.one (e : AW) : ∀ u ∈ ([.int .i64 e.p.x.n, .int .i64 e.p.x.d, .pointer e.p.x.p, .int .i64 e.p.y.n, .int .i64 e.p.y.d, .pointer e.p.y.p, .int .i64 e.q.x.n, .int .i64 e.q.x.d, .pointer e.q.x.p, .int .i64 e.q.y.n, .int .i64 e.q.y.d, .pointer e.q.y.p, .int .i64 e.r.x.n, .int .i64 e.r.x.d, .pointer e.r.x.p, .int .i64 e.r.y.n, .int .i64 e.r.y.d, .pointer e.r.y.p] : List Value), u.oneCell' = true := by
 intro u hu; simp only [List.mem_cons, List.not_mem_nil, or_false] at hu; rcases hu with rfl | rfl | rfl | rfl | rfl | rfl | rfl | rfl | rfl | rfl | rfl | rfl | rfl | rfl | rfl | rfl | rfl | rfl <;> rfl
theorem Z7 {w : World} {v : MW} {m : Aff} [h : Mk w v m] (hd : m.det ≠ 0) : Calls Tryz.prog 36 #[.agg #[.bool v.a.g, .slice v.a.a v.a.l v.a.c, .slice v.a.b v.a.m v.a.d, .bool v.b.g, .slice v.b.a v.b.l v.b.c, .slice v.b.b v.b.m v.b.d, .bool v.c.g, .slice v.c.a v.c.l v.c.c, .slice v.c.b v.c.m v.c.d, .bool v.d.g, .slice v.d.a v.d.l v.d.c, .slice v.d.b v.d.m v.d.d, .bool v.e.g, .slice v.e.a v.e.l v.e.c, .slice v.e.b v.e.m v.e.d, .bool v.f.g, .slice v.f.a v.f.l v.f.c, .slice v.f.b v.f.m v.f.d]] w (X4 w m) := by
 have hz : Hid (decide (m.det = 0) = false) := Lib.hid (decide_eq_false hd)
 clear hd; go_enter Tryz.func36, Tryz.ntmps36
 go_wp2_with (first
  | (go_at_call 53; refine S8 (Xw (v := v)) ?_; intro w5 _ u k5)
  | (go_at_call 79; refine Ab (Ue (v := u)) ?_; intros)
  | (go_at_call 80; refine Aa (Gj hz) ?_; intros)
  | refine A0 (t := 52) (x := .tmp 1) rfl rfl rfl (Bc Tryz.underlying52 rfl (by kernel_rfl)) ?_
  | refine A0 (t := 100) (x := .tmp 4) rfl rfl rfl (Bc Tryz.underlying100 rfl (by kernel_rfl)) ?_
  | (with_reducible refine Hk (w := w) rfl 100 (.tmp 4) (.tmp 6) rfl rfl rfl (l' := [.int .i64 u.p.x.n, .int .i64 u.p.x.d, .pointer u.p.x.p, .int .i64 u.p.y.n, .int .i64 u.p.y.d, .pointer u.p.y.p, .int .i64 u.q.x.n, .int .i64 u.q.x.d, .pointer u.q.x.p, .int .i64 u.q.y.n, .int .i64 u.q.y.d, .pointer u.q.y.p, .int .i64 u.r.x.n, .int .i64 u.r.x.d, .pointer u.r.x.p, .int .i64 u.r.y.n, .int .i64 u.r.y.d, .pointer u.r.y.p]) rfl (by kernel_rfl) (by simp only [List.length_cons, List.length_nil]) (AW.one u) ?_; intro W4 _ _ _ _ _)
  | (with_reducible refine Hk (w := w) rfl 100 (.tmp 2) (.tmp 12) rfl rfl rfl (l' := [.int .i64 u.p.x.n, .int .i64 u.p.x.d, .pointer u.p.x.p, .int .i64 u.p.y.n, .int .i64 u.p.y.d, .pointer u.p.y.p, .int .i64 u.q.x.n, .int .i64 u.q.x.d, .pointer u.q.x.p, .int .i64 u.q.y.n, .int .i64 u.q.y.d, .pointer u.q.y.p, .int .i64 u.r.x.n, .int .i64 u.r.x.d, .pointer u.r.x.p, .int .i64 u.r.y.n, .int .i64 u.r.y.d, .pointer u.r.y.p]) rfl (by kernel_rfl) (by simp only [List.length_cons, List.length_nil]) (AW.one u) ?_; intro W2 _ _ _ _ _))
 refine B6 rfl Tryz.underlying100 rfl (by kernel_rfl) rfl rfl rfl ?_
 exact ⟨u, rfl, ii, (ii : Kp w _).out⟩
end
section
theorem Qi {p q : Rat × Rat} : Bl p q < 0 ↔ p.1 < q.1 ∨ (p.1 = q.1 ∧ p.2 < q.2) := by
 unfold Bl Iz
 have b1 := Ls (p.1 - q.1).num
 have b2 := Ls (p.2 - q.2).num
 have n1 := @Tc (p.1 - q.1)
 have n2 := @Tc (p.2 - q.2)
 have z1 := @Lw (p.1 - q.1)
 split
 ·rename_i h
  have hz := z1.1 h
  constructor
  ·intro hl
   have : isgn (p.2 - q.2).num = -1 := by omega
   have := n2.1 this
   right; constructor <;> grind
  ·rintro (hl | ⟨_, hl⟩)
   ·grind
   ·have := n2.2 (by grind); omega
 ·rename_i h
  constructor
  ·intro hl
   have : isgn (p.1 - q.1).num = -1 := by omega
   have := n1.1 this
   left; grind
  ·rintro (hl | ⟨hl, _⟩)
   ·have := n1.2 (by grind); omega
   ·exact absurd (z1.2 (by grind)) h
theorem Qej {p q : Rat × Rat} : Bl p q = 0 ↔ p = q := by
 unfold Bl Iz
 have z1 := @Lw (p.1 - q.1)
 have z2 := @Lw (p.2 - q.2)
 split
 ·rename_i h
  have hz := z1.1 h
  rw [z2, Prod.ext_iff]; constructor
  ·intro h2; constructor <;> grind
  ·rintro ⟨_, h2⟩; grind
 ·rename_i h
  constructor
  ·intro h2; exact absurd h2 h
  ·rintro rfl; exact absurd (z1.2 (by grind)) h
variable {p q r x : Rat × Rat}
theorem Qge : 0 < Bl p q ↔ Bl q p < 0 := by
 have h0 := @Qej p q
 have h1 := @Qi p q
 have h2 := @Qi q p
 constructor
 ·intro h; rw [h2]
  have n1 : ¬ (p.1 < q.1 ∨ (p.1 = q.1 ∧ p.2 < q.2)) := fun hh => by have := h1.2 hh; omega
  have n0 : p ≠ q := fun e => by have := h0.2 e; omega
  rw [Ne, Prod.ext_iff] at n0
  grind
 ·intro h; rw [h2] at h
  have n1 : ¬ Bl p q < 0 := fun hh => by have := h1.1 hh; grind
  have n0 : Bl p q ≠ 0 := fun hh => by
   have := h0.1 hh
   subst this
   grind
  omega
theorem Qbx (h1 : Bl p q < 0) (h2 : Bl q r < 0) : Bl p r < 0 := by
 rw [Qi] at h1 h2 ⊢; grind
def Asc (M : List (Rat × Rat)) : Prop := List.Pairwise (fun p q => Bl p q < 0) M
def Ch (M : List (Rat × Rat)) (i : Nat) (p : Rat × Rat) : List (Rat × Rat) := M.take i ++ p :: M.drop i
variable {L M : List (Rat × Rat)} {i : Nat}
theorem Rm (hi : i ≤ M.length) : (Ch M i p).length = M.length + 1 := by simp [Ch]; omega
theorem Qcc : x ∈ Ch M i p ↔ x ∈ M ∨ x = p := by
 rw [Ch, List.mem_append, List.mem_cons]; constructor
 ·rintro (h | h | h)
  ·exact .inl (List.mem_of_mem_take h)
  ·exact .inr h
  ·exact .inl (List.mem_of_mem_drop h)
 ·rintro (h | h)
  ·rw [← List.take_append_drop i M, List.mem_append] at h
   rcases h with h | h
   ·exact .inl h
   ·exact .inr (.inr h)
  ·exact .inr (.inl h)
structure Place (M : List (Rat × Rat)) (p : Rat × Rat) (i : Nat) : Prop where
 le : i ≤ M.length
 below : ∀ j, j < i → Bl (pg M j) p < 0
theorem Yj (h : Asc M) {j : Nat} (hij : i < j) (hj : j < M.length) : Bl (pg M i) (pg M j) < 0 := by
 rw [Aw (by omega), Aw hj]; exact List.pairwise_iff_getElem.1 h i j (by omega) hj hij
theorem Qng : x ∈ M ↔ ∃ j, j < M.length ∧ pg M j = x := by
 have := J2 (L := M) (k := M.length) (Nat.le_refl _) (p := x)
 rwa [List.take_length] at this
theorem Qgk (h : Asc M) (hp : Place M p i) (he : i = M.length ∨ 0 < Bl (pg M i) p) : p ∉ M ∧ Asc (Ch M i p) := by
 have hab : ∀ j, i ≤ j → j < M.length → Bl p (pg M j) < 0 := by
  intro j h1 h2
  rcases he with he | he
  ·omega
  ·rw [Qge] at he
   rcases Nat.eq_or_lt_of_le h1 with rfl | h3
   ·exact he
   ·exact Qbx he (Yj h h3 h2)
 constructor
 ·intro hm; obtain ⟨j, hj, rfl⟩ := Qng.1 hm
  have hz : Bl (pg M j) (pg M j) = 0 := Qej.2 rfl
  rcases Nat.lt_or_ge j i with hlt | hge
  ·have := hp.below j hlt; omega
  ·have := hab j hge hj; omega
 ·unfold Asc Ch; rw [List.pairwise_append, List.pairwise_cons]
  refine ⟨h.sublist (List.take_sublist _ _), ⟨?_, h.sublist (List.drop_sublist _ _)⟩, ?_⟩
  ·intro x hx; obtain ⟨j, hj, rfl⟩ := List.mem_iff_getElem.1 hx; rw [List.getElem_drop]; rw [List.length_drop] at hj
   have := hab (i + j) (by omega) (by omega)
   rwa [Aw (by omega)] at this
  ·intro x hx y hy; obtain ⟨j, hj, rfl⟩ := (J2 hp.le).1 hx
   rcases List.mem_cons.1 hy with rfl | hy
   ·exact hp.below j hj
   ·obtain ⟨l, hl, rfl⟩ := List.mem_iff_getElem.1 hy; rw [List.length_drop] at hl
    have := Yj h (i := j) (j := i + l) (by omega) (by omega)
    rw [Aw (L := M) (i := i + l) (by omega)] at this
    rw [List.getElem_drop]; exact this
theorem Qdb (hi : i < M.length) (h1 : ¬ Bl (pg M i) p < 0) (h2 : ¬ 0 < Bl (pg M i) p) : p ∈ M :=
 Qng.2 ⟨i, hi, Qej.1 (by omega)⟩
structure SortOf (L : List (Rat × Rat)) (q : Nat) (M : List (Rat × Rat)) : Prop where
 asc : Asc M
 mem : ∀ x, x ∈ M ↔ x ∈ L.take q
 len : M.length = dsc L q
theorem SortOf.nil (L : List (Rat × Rat)) : SortOf L 0 [] := ⟨List.Pairwise.nil, fun x => by simp, rfl⟩
theorem T7 {q : Nat} (hq : q < L.length) : x ∈ L.take (q + 1) ↔ x ∈ L.take q ∨ x = pg L q := by
 rw [List.take_succ_eq_append_getElem hq, List.mem_append, List.mem_singleton, Aw hq]
theorem SortOf.new {q : Nat} (h : SortOf L q M) (hq : q < L.length) (hp : Place M (pg L q) i) (he : i = M.length ∨ 0 < Bl (pg M i) (pg L q)) : SortOf L (q + 1) (Ch M i (pg L q)) := by
 obtain ⟨h1, h2⟩ := Qgk h.asc hp he
 refine ⟨h2, fun x => by rw [Qcc, h.mem, T7 hq], ?_⟩
 rw [Rm hp.le, h.len, dsc, if_neg]
 rw [← h.mem]; exact h1
theorem SortOf.old {q : Nat} (h : SortOf L q M) (hq : q < L.length) (hi : i < M.length) (h1 : ¬ Bl (pg M i) (pg L q) < 0) (h2 : ¬ 0 < Bl (pg M i) (pg L q)) : SortOf L (q + 1) M := by
 have hm := Qdb hi h1 h2
 refine ⟨h.asc, fun x => by
  rw [h.mem, T7 hq]; constructor
  ·exact .inl
  ·rintro (hx | rfl)
   ·exact hx
   ·rwa [← h.mem], ?_⟩
 rw [h.len, dsc, if_pos (by rwa [← h.mem]), Nat.add_zero]
def G5 (L : List (Rat × Rat)) : Prop := ∀ i, i + 1 < L.length → pg L i ≠ pg L (i + 1)
theorem G5.nil : G5 [] := fun i h => by simp at h
theorem G5.snoc (h : G5 L) (hp : L = [] ∨ pg L (L.length - 1) ≠ p) : G5 (L ++ [p]) := by
 intro i hi; rw [List.length_append, List.length_singleton] at hi
 rcases Nat.lt_or_ge (i + 1) L.length with hlt | hge
 ·rw [Aw (by simp; omega), Aw (by simp; omega), List.getElem_append_left (by omega), List.getElem_append_left (by omega)]
  have := h i hlt
  rwa [Aw (by omega), Aw (by omega)] at this
 ·have e : i + 1 = L.length := by omega
  rw [Aw (i := i) (by simp; omega), List.getElem_append_left (by omega)]; rw [Aw (i := i + 1) (by simp; omega), List.getElem_append_right (by omega)]
  rcases hp with hp | hp
  ·subst hp; simp at e
  ·rw [Aw (by omega)] at hp; simp only [e, Nat.sub_self, List.getElem_singleton]; have e2 : L.length - 1 = i := (by omega)
   simpa only [e2] using hp
theorem G5.take (h : G5 L) (k : Nat) : G5 (L.take k) := by
 intro i hi
 have hl := hi
 rw [List.length_take] at hl; rw [Aw (by omega), Aw hi, List.getElem_take, List.getElem_take]
 have := h i (by omega)
 rwa [Aw (by omega), Aw (by omega)] at this
theorem G5.ring (h : G5 L) (h3 : 3 ≤ dsc L L.length) (hc : ¬ pg L 0 = pg L (L.length - 1)) : RingOK L := by
 refine ⟨h3, fun i hi => ?_⟩
 rcases Nat.lt_or_ge (i + 1) L.length with hlt | hge
 ·rw [Nat.mod_eq_of_lt hlt]; exact h i hlt
 ·have e : i + 1 = L.length := by omega
  rw [e, Nat.mod_self]
  have : i = L.length - 1 := by omega
  rw [this]
  exact fun hh => hc hh.symm
theorem Q0 (L : List (Rat × Rat)) (k : Nat) : dsc L k ≤ k := by
 induction k with
 | zero => exact Nat.le_refl _
 | succ k ih => rw [dsc]; split <;> omega
theorem No (h1 : q ≠ p) (h2 : r ≠ p) (h3 : r ≠ q) : RingOK [p, q, r] := by
 refine ⟨T3 (by simp) h1 h2 h3, fun i hi => ?_⟩
 simp only [List.length_cons, List.length_nil] at hi
 rcases (by omega : i = 0 ∨ i = 1 ∨ i = 2) with rfl | rfl | rfl
 ·exact fun e => h1 e.symm
 ·exact fun e => h3 e.symm
 ·have e : (2 + 1) % [p, q, r].length = 0 := by simp
  rw [e]; exact h2
theorem Qgn {s : Rat × Rat} (h1 : q ≠ p) (h2 : r ≠ p) (h3 : r ≠ q) (h4 : s ≠ r) (h5 : s ≠ p) : RingOK [p, q, r, s] := by
 refine ⟨T3 (by simp) h1 h2 h3, fun i hi => ?_⟩
 simp only [List.length_cons, List.length_nil] at hi
 rcases (by omega : i = 0 ∨ i = 1 ∨ i = 2 ∨ i = 3) with rfl | rfl | rfl | rfl
 ·exact fun e => h1 e.symm
 ·exact fun e => h3 e.symm
 ·exact fun e => h4 e.symm
 ·have e : (3 + 1) % [p, q, r, s].length = 0 := by simp
  rw [e]; exact h5
end
section
set_option maxHeartbeats 40000000
set_option synthInstance.maxHeartbeats 1000000
set_option synthInstance.maxSize 100000
def Qd (w : World) (x : Rat) (k : Nat) (e : Ending) (w' : World) : Prop := ∃ g a l c aa ll cc, e = .returned (.tuple #[.agg #[.bool g, .slice a l c, .slice aa ll cc], .nilIface]) ∧ CA w' (.agg #[.bool g, .slice a l c, .slice aa ll cc]) x k ∧ Below w.heap.size w w'
variable {P : Program} {W w : World} {b c k : Nat} {x : Rat}
theorem Qcz {f : FuncId} {args : Array Value} {K : Ending → World → Prop} (h : Calls P f args w (Qd w x k))
  (hK : ∀ w' [Kp1 w w'] g a l c aa ll cc [CA w' (.agg #[.bool g, .slice a l c, .slice aa ll cc]) x k], K (.returned (.tuple #[.agg #[.bool g, .slice a l c, .slice aa ll cc], .nilIface])) w') : Calls P f args w K := by
 refine h.mono ?_
 rintro e w' ⟨g, a, l, c, aa, ll, cc, rfl, hx, hb⟩
 exact @hK w' ⟨hb⟩ g a l c aa ll cc hx
theorem Qd.fin {w' : World} {g : Bool} {a aa : Option Addr} {l ll cc k' : Nat} {x' : Rat} [b : Kp w w'] [hx : CA w' (.agg #[.bool g, .slice a l c, .slice aa ll cc]) x' k'] (e : x = x') (m : k' ≤ k) : Qd w x k (.returned (.tuple #[.agg #[.bool g, .slice a l c, .slice aa ll cc], .nilIface])) w' :=
 ⟨g, a, l, c, aa, ll, cc, rfl, hx.cast e.symm m, b.out⟩
variable {t : TypeId}
theorem Yw {fn : Func} {R : Ending → World → Prop} {a : Act} {p u : Tmp} {ty : TypeId} {d : TypeDesc} {l l' : List Value} [hb : Bx W b t l] (hr : fn.results = #[.cell p ty, .tmp u])
  (hu : P.underlying ty = some d) (hd : (match d with | .struct _ | .array _ _ => true | _ => false) = true) (hi : (P.info? ty).map (·.size) = some l.length)
  (hp : a.tmps.getD p undef = .pointer (some ⟨b, 0, none⟩)) (hdf : a.defers = []) (hl : l = l') (hR : R (.returned (.tuple #[.agg l'.toArray, a.tmps.getD u undef])) W) : bodyPost P fn R .ret a W := by
 subst hl; exact Tl hr hp (M1 W b ty l d hu hd hi (fun j hj => by rw [B8, List.getElem?_eq_getElem hj])) hdf hR
theorem Sl.ofBx {n : Nat} {xs : List Value} (h : Bx W b t xs) (hc : n ≤ c := by first | omega | decide) : Sl W (.slice (some ⟨b, 0, none⟩) n c) n xs W :=
 ⟨.inr ⟨b, c, rfl, hc, fun j u hu => by rw [B8 (h := h)]; exact hu⟩, fun g e => by cases e; exact h.lt, fun g e => by cases e; exact h.lt⟩
theorem Qaa {gx1 gy1 : Bool} {ax1 aax1 ay1 aay1 : Option Addr} {lx1 cx1 llx1 ccx1 ly1 cy1 lly1 ccy1 : Nat} {gx2 gy2 : Bool} {ax2 aax2 ay2 aay2 : Option Addr} {lx2 cx2 llx2 ccx2 ly2 cy2 lly2 ccy2 : Nat} {gx3 gy3 : Bool} {ax3 aax3 ay3 aay3 : Option Addr} {lx3 cx3 llx3 ccx3 ly3 cy3 lly3 ccy3 : Nat} {px1 py1 px2 py2 px3 py3 : Rat} {k1 k2 k3 : Nat} [x1 : CQ w (.agg #[.bool gx1, .slice ax1 lx1 cx1, .slice aax1 llx1 ccx1]) px1 k1] [y1 : CQ w (.agg #[.bool gy1, .slice ay1 ly1 cy1, .slice aay1 lly1 ccy1]) py1 k1] [x2 : CQ w (.agg #[.bool gx2, .slice ax2 lx2 cx2, .slice aax2 llx2 ccx2]) px2 k2] [y2 : CQ w (.agg #[.bool gy2, .slice ay2 ly2 cy2, .slice aay2 lly2 ccy2]) py2 k2] [x3 : CQ w (.agg #[.bool gx3, .slice ax3 lx3 cx3, .slice aax3 llx3 ccx3]) px3 k3] [y3 : CQ w (.agg #[.bool gy3, .slice ay3 ly3 cy3, .slice aay3 lly3 ccy3]) py3 k3] [h : Bx w b 40 [.bool gx1, .slice ax1 lx1 cx1, .slice aax1 llx1 ccx1, .bool gy1, .slice ay1 ly1 cy1, .slice aay1 lly1 ccy1, .bool gx2, .slice ax2 lx2 cx2, .slice aax2 llx2 ccx2, .bool gy2, .slice ay2 ly2 cy2, .slice aay2 lly2 ccy2, .bool gx3, .slice ax3 lx3 cx3, .slice aax3 llx3 ccx3, .bool gy3, .slice ay3 ly3 cy3, .slice aay3 lly3 ccy3]] (hk : k ≤ 400000) (b1 : k1 ≤ k) (b2 : k2 ≤ k) (b3 : k3 ≤ k) :
  Calls Tryz.prog 23 #[.slice (some ⟨b, 0, none⟩) 3 3] w (Kl w [(px1, py1), (px2, py2), (px3, py3)] (k + 1)) := by
 have i1 : Sl w (.slice (some ⟨b, 0, none⟩) 3 3) (List.length (α := AV) [⟨gx1, ax1, lx1, cx1, aax1, llx1, ccx1, gy1, ay1, ly1, cy1, aay1, lly1, ccy1⟩, ⟨gx2, ax2, lx2, cx2, aax2, llx2, ccx2, gy2, ay2, ly2, cy2, aay2, lly2, ccy2⟩, ⟨gx3, ax3, lx3, cx3, aax3, llx3, ccx3, gy3, ay3, ly3, cy3, aay3, lly3, ccy3⟩]) (Af [⟨gx1, ax1, lx1, cx1, aax1, llx1, ccx1, gy1, ay1, ly1, cy1, aay1, lly1, ccy1⟩, ⟨gx2, ax2, lx2, cx2, aax2, llx2, ccx2, gy2, ay2, ly2, cy2, aay2, lly2, ccy2⟩, ⟨gx3, ax3, lx3, cx3, aax3, llx3, ccx3, gy3, ay3, ly3, cy3, aay3, lly3, ccy3⟩]) w := Sl.ofBx h
 have i2 : PsQ w [⟨gx1, ax1, lx1, cx1, aax1, llx1, ccx1, gy1, ay1, ly1, cy1, aay1, lly1, ccy1⟩, ⟨gx2, ax2, lx2, cx2, aax2, llx2, ccx2, gy2, ay2, ly2, cy2, aay2, lly2, ccy2⟩, ⟨gx3, ax3, lx3, cx3, aax3, llx3, ccx3, gy3, ay3, ly3, cy3, aay3, lly3, ccy3⟩] [(px1, py1), (px2, py2), (px3, py3)] k := (PsQ.add (h := (PsQ.add (h := (PsQ.add (h := PsQ.nil) (k := k) (b1) (b1))) (k := k) (b2) (b2))) (k := k) (b3) (b3))
 exact Su hk (by simp)
end
end Go.Proofs.YtpnpnlmlamfpmaaGreatDoor
