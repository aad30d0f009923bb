import Derived.Test.YtpnpnlmlamfpmaaGreatDoorS05
import Derived.Test.YtpnpnlmlamfpmaaGreatDoorS07
import Derived.Test.YtpnpnlmlamfpmaaGreatDoorS08
import Derived.Deep.Cut
import Derived.Deep.CutBlock
import Derived.Deep.CutRange
import Derived.Deep.RegionWith
import Derived.Laws.BitsAllLaws
import Derived.OneCell
import Derived.WalkMore
namespace Go.Proofs.YtpnpnlmlamfpmaaGreatDoor
open Go.RowKit
set_option maxHeartbeats 40000000
set_option maxRecDepth 100000
set_option synthInstance.maxHeartbeats 1000000
set_option synthInstance.maxSize 100000
variable {M N V X Y b b' c capq capu capv d g gu guess gv h1 j k la s x : Nat}
theorem Yt {n : Nat} (hn : n ≠ 0) (hN : N = (nf n).length) (hx : x = (nf n).getD (N - 1) 0) (hs : s = 32 - blen x) :
  s ≤ 31 ∧ blen x ≤ 32 ∧ 2147483648 * 4294967296 ^ (N - 1) ≤ n * 2 ^ s ∧ n * 2 ^ s < 4294967296 ^ N ∧ 0 < N := by
 have hp := Bw hn
 have hl := Ic n hn
 have hd := An (B9 n) (N - 1)
 rw [← hN] at hl hp; rw [← hx] at hl hd
 have hb := Qn hd
 obtain ⟨b1, b2⟩ := Ny (x := x) (by omega) hl
 have b3 := Sw (x := x) (by omega)
 have h1 := Dt (nf n) (N - 1) (by omega)
 have h2 := C9 ((nf n).take (N - 1)) (E7 (B9 n) (N - 1))
 rw [List.length_take, Nat.min_eq_left (by omega)] at h2; rw [Ck _ (N - 1) (by omega), List.drop_eq_nil_of_le (by omega), Ay, Ah, ← hx, Nat.mul_zero, Nat.add_zero] at h1
 generalize val ((nf n).take (N - 1)) = lo at *
 have eS : 2 ^ blen x * 2 ^ s = 4294967296 := by
  rw [← Nat.pow_add, hs, show blen x + (32 - blen x) = 32 by omega]
 have eS2 : 2 ^ (blen x - 1) * 2 ^ s = 2147483648 := by
  rw [← Nat.pow_add, hs, show blen x - 1 + (32 - blen x) = 31 by omega]
 have eN : 4294967296 ^ N = 4294967296 ^ (N - 1) * 4294967296 := by
  rw [← Nat.pow_succ]; congr 1; omega
 refine ⟨by omega, hb, ?_, ?_, hp⟩
 ·have a1 : 2 ^ (blen x - 1) * 2 ^ s ≤ x * 2 ^ s := Nat.mul_le_mul_right _ b2
  rw [eS2] at a1
  have a2 := Nat.mul_le_mul_left (4294967296 ^ (N - 1)) a1
  rw [← Nat.mul_assoc] at a2
  have a3 : 4294967296 ^ (N - 1) * x * 2 ^ s ≤ n * 2 ^ s := Nat.mul_le_mul_right _ (by omega)
  rw [Nat.mul_comm 2147483648]; omega
 ·have a1 : (x + 1) * 2 ^ s ≤ 2 ^ blen x * 2 ^ s := Nat.mul_le_mul_right _ b3
  rw [eS] at a1
  have a2 := Nat.mul_le_mul_left (4294967296 ^ (N - 1)) a1
  rw [← Nat.mul_assoc] at a2
  have a3 : (n + 1) * 2 ^ s ≤ 4294967296 ^ (N - 1) * (x + 1) * 2 ^ s := Nat.mul_le_mul_right _ (by rw [Nat.mul_add]; omega)
  have a4 : 0 < 2 ^ s := Nat.pow_pos (by omega)
  rw [Nat.add_mul, Nat.one_mul] at a3; rw [eN]; omega
theorem Xf (h1 : 2147483648 * 4294967296 ^ (N - 1) ≤ V) (h2 : V < 4294967296 ^ N) (hp : 0 < N) :
  (nf V).length = N ∧ 2147483648 ≤ (nf V).getD (N - 1) 0 := by
 have hl := Bi h2
 have hV : V ≠ 0 := by
  have : 0 < 4294967296 ^ (N - 1) := Nat.pow_pos (by omega)
  omega
 have hl2 : (nf V).length = N := by
  rcases Nat.lt_or_ge (nf V).length N with h | h
  ·exfalso
   have := Eh (n := V) (k := N - 1) (by omega)
   omega
  ·omega
 refine ⟨hl2, ?_⟩
 have h3 := Dt (nf V) (N - 1) (by omega)
 have h4 := C9 ((nf V).take (N - 1)) (E7 (B9 V) (N - 1))
 rw [List.length_take, Nat.min_eq_left (by omega)] at h4; rw [Ck _ (N - 1) (by omega), List.drop_eq_nil_of_le (by omega), Ay, Ah, Nat.mul_zero, Nat.add_zero] at h3
 generalize (nf V).getD (N - 1) 0 = x at *
 rcases Nat.lt_or_ge x 2147483648 with h | h
 ·exfalso
  have a1 : 4294967296 ^ (N - 1) * (x + 1) ≤ 4294967296 ^ (N - 1) * 2147483648 := Nat.mul_le_mul_left _ h
  rw [Nat.mul_add] at a1; omega
 ·exact h
theorem Qgy {m : Nat} (hla : la = (nf m).length) (hs : s ≤ 31) : la ≤ (nf (m * 2 ^ s)).length ∧ (nf (m * 2 ^ s)).length ≤ la + 1 ∧
  ((nf (m * 2 ^ s) ++ [0, 0]).take (la + 1)).length = la + 1 ∧ val ((nf (m * 2 ^ s) ++ [0, 0]).take (la + 1)) = m * 2 ^ s := by
 have h1 : m ≤ m * 2 ^ s := Nat.le_mul_of_pos_right _ (Nat.pow_pos (by omega))
 have h2 := D4 h1
 have h3 : m < 4294967296 ^ la := Eh (by omega)
 have h4 : 2 ^ s ≤ 2 ^ 31 := Nat.pow_le_pow_right (by omega) hs
 have h5 : m * 2 ^ s < 4294967296 ^ (la + 1) := by
  have a : m * 2 ^ s ≤ m * 4294967296 := Nat.mul_le_mul_left _ (by omega)
  have b : (m + 1) * 4294967296 ≤ 4294967296 ^ la * 4294967296 := Nat.mul_le_mul_right _ h3
  rw [Nat.pow_succ]; omega
 have h6 := Bi h5
 refine ⟨by omega, h6, by simp; omega, ?_⟩
 rw [Om, Mf, Ah]
 ·simp [Bp, Ay]
 ·intro i hi; rw [List.getD_eq_getElem?_getD, List.getElem?_append_right (by omega)]
  generalize i - (nf (m * 2 ^ s)).length = k
  match k with
  | 0 => rfl
  | 1 => rfl
  | k + 2 => rfl
variable {Q U U0 l ys : List Nat}
theorem Qlm {top second : Nat} (KO : KnOut M V Q U (j + 1)) (hdU : Dig U) (hdy : Dig ys) (hy : ys.length = N) (hN : 2 ≤ N) (hU : U.length = la + 1) (hj : j + N ≤ la)
  (hV : val ys = V) (ht : top = ys.getD (N - 1) 0) (hs : second = ys.getD (N - 2) 0) (h0 : 2147483648 ≤ top) :
  U.getD (j + N) 0 ≤ top ∧ Nonempty (KnTop (val U / 4294967296 ^ j) V top second (U.getD (j + N) 0) (U.getD (j + N - 1) 0) (U.getD (j + N - 2) 0)) ∧
   val U / 4294967296 ^ j / V < 4294967296 ∧ (∀ i, j + N + 1 ≤ i → U.getD i 0 = 0) ∧ 0 < V ∧ V < 4294967296 ^ N := by
 have hVN : V < 4294967296 ^ N := by rw [← hV, ← hy]; exact C9 ys hdy
 have hz := Y5 (Qds KO (Nat.le_of_lt hVN))
 obtain ⟨KT⟩ := Qeq (U := U) (ys := ys) (N := N - 2) (j := j) hdU hdy (by omega) (by omega) (fun i hi => hz i (by omega))
 rw [show N - 2 + 1 = N - 1 by omega, show N - 2 + 2 = N by omega, show j + (N - 1) = j + N - 1 by omega, show j + (N - 2) = j + N - 2 by omega, hV, ← ht, ← hs] at KT
 have hV0 : 0 < V := by
  rcases Nat.eq_zero_or_pos V with h | h
  ·have := KT.hV2
   subst h
   have h2 : 2147483648 * 4294967296 * KT.P ≤ (top * 4294967296 + second) * KT.P := Nat.mul_le_mul_right _ (by omega)
   have := KT.hP
   omega
  ·exact h
 have hq := Qfo KO hV0
 refine ⟨?_, ⟨KT⟩, hq, hz, hV0, hVN⟩
 rw [Nat.div_lt_iff_lt_mul hV0] at hq
 have h1 := KT.hW2
 have h2 := KT.hV1
 have hsd := An hdy (N - 2)
 rw [← hs] at hsd
 generalize U.getD (j + N) 0 = a, U.getD (j + N - 1) 0 = b, U.getD (j + N - 2) 0 = c, val U / 4294967296 ^ j = W at *
 rcases Nat.lt_or_ge top a with h | h
 ·exfalso
  have h3 : (top * 4294967296 + second + 1) * KT.P ≤ (top + 1) * 4294967296 * KT.P := Nat.mul_le_mul_right _ (by omega)
  have h4 : ((top + 1) * 4294967296 * 4294967296) * KT.P ≤ ((b + 4294967296 * a) * 4294967296 + c) * KT.P := Nat.mul_le_mul_right _ (by omega)
  have e : (top + 1) * 4294967296 * 4294967296 * KT.P = 4294967296 * ((top + 1) * 4294967296 * KT.P) := by
   rw [Nat.mul_comm ((top + 1) * 4294967296) 4294967296, Nat.mul_assoc]
  omega
 ·exact h
theorem Qj7 (t : Nat) (h : t < 18446744073709551616) : bits .and .u64 (t : Int) 4294967295 = ((t % 4294967296 : Nat) : Int) := by
 have h1 := u64_and_nat t 4294967295 h (by omega)
 have h2 : t &&& 4294967295 = t % 4294967296 := by
  have := Nat.and_two_pow_sub_one_eq_mod t 32
  simpa using this
 rw [h2] at h1; exact h1
def H9 (X : Nat) (ys U : List Nat) (j N guess h1 k b c : Nat) : Prop :=
 (∀ i, j + N + 1 ≤ i → U.getD i 0 = 0) ∧ U.getD (j + N) 0 = h1 ∧ val U + 4294967296 ^ j * (guess * val (ys.take k)) = X + 4294967296 ^ (j + k) * (b + c)
theorem H9.step {u : Nat} (h : H9 X ys U j N guess h1 k b c) (hk : k < N) (hy : ys.length = N) (hU : U.length = la + 1) (hj : j + N ≤ la)
  (hu : u = U.getD (j + k) 0) (hd : d = ys.getD k 0) (he : x + (c + guess * d) % 4294967296 + b = u + 4294967296 * b') :
  H9 X ys (U.set (j + k) x) j N guess h1 (k + 1) b' ((c + guess * d) / 4294967296) := by
 obtain ⟨z1, z2, z3⟩ := h
 refine ⟨fun i hi => by rw [Cq _ _ _ _ (by omega)]; exact z1 i hi, by rw [Cq _ _ _ _ (by omega)]; exact z2, ?_⟩
 exact Sr (by omega) hu.symm (by rw [hd]; exact Ds ys k (by omega)) he z3
theorem Qim (hc : c < 4294967296) (hg : g < 4294967296) (hd : d < 4294967296) : c + g * d < 18446744073709551616 ∧ (c + g * d) / 4294967296 < 4294967296 := by
 have h := Yc hg hd hc (z := 0) (by omega)
 constructor <;> omega
theorem H9.last (h : H9 X ys U j N guess h1 N b c) (hy : ys.length = N) (hU : U.length = la + 1) (hj : j + N ≤ la) (hc : c < 4294967296)
  (he : x + c + b = h1 + 4294967296 * b') :
  (∀ i, j + N + 1 ≤ i → (U.set (j + N) x).getD i 0 = 0) ∧ (U.set (j + N) x).getD (j + N) 0 = x ∧ val (U.set (j + N) x) + 4294967296 ^ j * (guess * val ys) = X + 4294967296 ^ (j + N + 1) * b' := by
 obtain ⟨z1, z2, z3⟩ := h
 refine ⟨fun i hi => by rw [Cq _ _ _ _ (by omega)]; exact z1 i hi, Ml _ _ _ (by omega), ?_⟩
 have h1 := Sr (d := 0) (u := h1) (x := x) (b' := b') (by omega) z2 (by rw [List.take_of_length_le (by omega), List.take_of_length_le (by omega), Nat.mul_zero, Nat.add_zero]) (by rw [Nat.mul_zero, Nat.add_zero, Nat.mod_eq_of_lt hc]; omega) z3
 rw [List.take_of_length_le (by omega), Nat.mul_zero, Nat.add_zero c, Nat.div_eq_of_lt hc, Nat.add_zero, ← Nat.add_assoc] at h1; exact h1
theorem Qgr (KO : KnOut M V Q U0 (j + 1)) (h : H9 (val U0) ys U j N guess h1 N b c) (hy : ys.length = N) (hV : val ys = V) (hV0 : 0 < V)
  (hU : U.length = la + 1) (hj : j + N ≤ la) (hc : c < 4294967296) (he : x + c + b = h1) (hge : val U0 / 4294967296 ^ j / V ≤ guess) (hjq : j < Q.length) : KnOut M V (Q.set j guess) (U.set (j + N) x) j := by
 obtain ⟨_, _, h3⟩ := H9.last (b' := 0) h hy hU hj hc (by omega); rw [Nat.mul_zero, Nat.add_zero, hV] at h3; exact Yo KO hjq hV0 (Qdf h3 hV0 hge).symm h3
theorem Yd (hd : Dig U) (hz : ∀ i, k ≤ i → U.getD i 0 = 0) : val U < 4294967296 ^ k := by
 rw [← Om hz]
 have h := C9 (U.take k) (E7 hd k)
 rw [List.length_take] at h; exact Nat.lt_of_lt_of_le h (Nat.pow_le_pow_right (by omega) (Nat.min_le_left _ _))
theorem Ql1 (h : H9 (val U0) ys U j N guess h1 N b c) (hy : ys.length = N) (hV : val ys = V)
  (hU : U.length = la + 1) (hj : j + N ≤ la) (hc : c < 4294967296) (he : x + c + b = h1 + 4294967296) (hx : x < 4294967296) (hdU : Dig U) (hge : val U0 / 4294967296 ^ j / V ≤ guess) (hle : guess ≤ val U0 / 4294967296 ^ j / V + 1) :
  guess = val U0 / 4294967296 ^ j / V + 1 ∧ (∀ i, j + N + 1 ≤ i → (U.set (j + N) x).getD i 0 = 0) ∧ (U.set (j + N) x).getD (j + N) 0 = x ∧ val (U.set (j + N) x) + 4294967296 ^ j * (guess * V) = val U0 + 4294967296 ^ (j + N + 1) := by
 obtain ⟨h1, h2, h3⟩ := H9.last (b' := 1) h hy hU hj hc (by omega); rw [Nat.mul_one, hV] at h3; exact ⟨Qgo h3 (Yd (G6 hdU _ hx) h1) hle hge, h1, h2, h3⟩
def L4 (Y : Nat) (ys U : List Nat) (j N x k c : Nat) : Prop :=
 (∀ i, j + N + 1 ≤ i → U.getD i 0 = 0) ∧ U.getD (j + N) 0 = x ∧ val U + 4294967296 ^ (j + k) * c = Y + 4294967296 ^ j * val (ys.take k)
theorem L4.step {u : Nat} (h : L4 Y ys U j N x k c) (hk : k < N) (hy : ys.length = N) (hU : U.length = la + 1) (hj : j + N ≤ la)
  (hu : u = U.getD (j + k) 0) (hd : d = ys.getD k 0) : L4 Y ys (U.set (j + k) ((c + (u + d)) % 4294967296)) j N x (k + 1) ((c + (u + d)) / 4294967296) := by
 obtain ⟨z1, z2, z3⟩ := h
 refine ⟨fun i hi => by rw [Cq _ _ _ _ (by omega)]; exact z1 i hi, by rw [Cq _ _ _ _ (by omega)]; exact z2, ?_⟩
 exact Vs (by omega) hu.symm (by rw [hd]; exact Ds ys k (by omega)) z3
theorem Qax {q : Nat} (KO : KnOut M V Q U0 (j + 1)) (h : L4 Y ys U j N x N c) (hY : Y + 4294967296 ^ j * ((q + 1) * V) = val U0 + 4294967296 ^ (j + N + 1)) (hy : ys.length = N) (hV : val ys = V)
  (hV0 : 0 < V) (hVN : V < 4294967296 ^ N) (hU : U.length = la + 1) (hj : j + N ≤ la) (hdU : Dig U) (hq : q = val U0 / 4294967296 ^ j / V) (hjq : j < Q.length) :
  KnOut M V (Q.set j q) (U.set (j + N) ((x + c) % 4294967296)) j := by
 obtain ⟨z1, z2, z3⟩ := h
 have h1 := Vs (d := 0) (u := x) (k := c) (by omega) z2 (by rw [List.take_of_length_le (by omega), List.take_of_length_le (by omega), Nat.mul_zero, Nat.add_zero]) z3
 rw [List.take_of_length_le (by omega), Nat.add_zero, hV, ← Nat.add_assoc, Nat.add_comm c x] at h1
 have hz : ∀ i, j + N + 1 ≤ i → (U.set (j + N) ((x + c) % 4294967296)).getD i 0 = 0 := fun i hi => by rw [Cq _ _ _ _ (by omega)]; exact z1 i hi
 have hlt := Yd (G6 hdU (j + N) (Nat.mod_lt (x + c) (by omega))) hz
 refine Yo KO hjq hV0 hq (Qez hY h1 hlt hq hV0 ?_)
 rw [Nat.add_assoc, Nat.pow_add, Nat.pow_succ]
 refine Nat.mul_le_mul_left _ ?_
 omega
theorem Uy {u lo bn : Nat} (hu : u < 4294967296) (hl : lo < 4294967296) (hb : bn ≤ 1) (h : u < lo + bn) :
  IntKind.u64.wrap (IntKind.u64.wrap ((u : Int) - (lo : Int)) - (bn : Int)) % 4294967296 = ((u + 4294967296 - lo - bn : Nat) : Int) ∧ IntKind.u64.wrap (IntKind.u64.wrap ((u : Int) - (lo : Int)) - (bn : Int)) / 9223372036854775808 = ((1 : Nat) : Int) := by
 rw [IntKind.wrap_u64, IntKind.wrap_u64]
 constructor <;> omega
theorem Sb {x : Int} (h0 : 0 ≤ x) (h : x < 4294967296) : x / 4294967296 = 0 := by omega
theorem Ru {x : Int} (h : 4294967296 ≤ x) : (x / 4294967296 == 0) = false ∧ (x / 4294967296 != 0) = true := by
 have e : (x / 4294967296 == 0) = false := by rw [beq_eq_false_iff_ne]; omega
 exact ⟨e, by rw [bne, e]; rfl⟩
variable {w wr : World}
theorem Row.far {base cap : Nat} (h : Row w base g cap l) {g' : Nat} (hne : g ≠ g') (j : Nat) (x : Value) : Row (w.setCell ⟨g', j, none⟩ x) base g cap l :=
 ⟨h.1, ownsRow_setCell_other h.2 (by show some g ≠ some g'; exact fun e => hne (Option.some.inj e)) x⟩
theorem Own.form {base : Nat} {v : Value} (h : Own w base v l) (hn : 0 < l.length) : ∃ g cap, v = .slice (some ⟨g, 0, none⟩) l.length cap ∧ Row w base g cap l := by
 rcases h.shape with ⟨_, e⟩ | ⟨g, cap, rfl, _⟩
 ·subst e; simp at hn
 ·exact ⟨g, cap, rfl, h⟩
structure LongMem (w wr : World) (gu capu gv capv gq capq : Nat) (ys U Q : List Nat) : Prop where
 u : Row wr w.heap.size gu capu U
 v : Row wr w.heap.size gv capv ys
 q : Row wr w.heap.size gq capq Q
 below : Below w.heap.size w wr
 far : gu ≠ gv ∧ gu ≠ gq ∧ gv ≠ gq
theorem LongMem.setU {gq : Nat} (h : LongMem w wr gu capu gv capv gq capq ys U Q) (j : Nat) (hd : d < 4294967296) :
  LongMem w (wr.setCell ⟨gu, j, none⟩ (.int .u32 (d : Int))) gu capu gv capv gq capq ys (U.set j d) Q :=
 ⟨h.u.set j hd, h.v.far h.far.1.symm _ _, h.q.far h.far.2.1.symm _ _, h.below.setCell h.u.lt.1 _, h.far⟩
theorem LongMem.setQ {gq : Nat} (h : LongMem w wr gu capu gv capv gq capq ys U Q) (j : Nat) (hd : d < 4294967296) :
  LongMem w (wr.setCell ⟨gq, j, none⟩ (.int .u32 (d : Int))) gu capu gv capv gq capq ys U (Q.set j d) :=
 ⟨h.u.far h.far.2.1 _ _, h.v.far h.far.2.2 _ _, h.q.set j hd, h.below.setCell h.q.lt.1 _, h.far⟩
theorem LongMem.drewN {gq : Nat} (h : LongMem w wr gu capu gv capv gq capq ys U Q) (n : Nat) :
  LongMem w (wr.drewN n) gu capu gv capv gq capq ys U Q :=
 ⟨h.u, h.v, h.q, Be h.below n, h.far⟩
theorem Zd : Sf := by
 intro w a b capa capb m n hN hmn hM hca hcb hcam hcbm hra hrb
 have hNM := D4 hmn
 have hn0 : n ≠ 0 := by
  intro h; subst h; exact absurd hN (by decide)
 have hlast := Ic n hn0
 have htop := An (B9 n) ((nf n).length - 1)
 obtain ⟨s, hs⟩ : ∃ s, s = 32 - blen ((nf n).getD ((nf n).length - 1) 0) := ⟨_, rfl⟩; obtain ⟨s1, sb, s2, s3, s4⟩ := Yt hn0 rfl rfl hs; have hsi : (32 : Int) - (blen ((nf n).getD ((nf n).length - 1) 0) : Int) = (s : Int) := (by omega); obtain ⟨y1, y2⟩ := Xf s2 s3 s4; obtain ⟨u1, u2, u3, u4⟩ := Qgy (m := m) rfl s1
 have hRa : Rd w (.slice a (nf m).length capa) (nf m) := ⟨a, capa, rfl, hca, hcam, B9 m, hra⟩
 have hRb : Rd w (.slice b (nf n).length capb) (nf n) := ⟨b, capb, rfl, hcb, hcbm, B9 n, hrb⟩
 obtain ⟨bb, offb, rfl, hcell⟩ := hrb (by omega)
 have c0 := hcell ((nf n).length - 1) (by omega)
 have hlz := fun w => Qu w ((nf n).getD ((nf n).length - 1) 0) htop
 rw [hsi] at hlz
 have hshlA := Sn w _ _ s hRa hM (by omega)
 have hshlB := fun w' (hb : Below w.heap.size w w') => Sn w' _ _ s (hRb.keep hb) (by omega) (by omega)
 rw [Ah] at hshlA; simp only [Ah] at hshlB; have hVl : (nf n).length ≤ 1000000 := (by omega); have HM := Lib.hid (Eh (n := m) (Nat.le_refl (nf m).length)); have HS2 := Lib.hid s2; have HS1 := Lib.hid s1; have HY2 := Lib.hid y2
 have hdY := B9 (n * 2 ^ s)
 have hdU := B9 (m * 2 ^ s)
 have HU4 := Lib.hid u4; have HYV := Lib.hid (Ah (n * 2 ^ s))
 generalize (nf n).getD ((nf n).length - 1) 0 = x0, nf (n * 2 ^ s) = ys, nf (m * 2 ^ s) = us, (nf m).length = la at *; generalize (nf n).length = N at *
 clear hcell hsi hs s2 s3 s1 y2 u4 hra hrb hlast hRa hRb hn0 hmn sb; have HA := Lib.hid hshlA; have HB := Lib.hid hshlB; have HL := Lib.hid hlz; have HU3 := Lib.hid u3; have HY1 := Lib.hid y1; clear hshlA hshlB hlz u3 y1; go_enter Tryz.func225, Tryz.ntmps225; go_wp2_with fail
 go_step3
 go_wp2_with fail
 refine (HL.out _).mono ?_
 rintro e w1 ⟨rfl, rfl⟩
 have hs1 := HS1.out
 have hs2 : (0 : Int) ≤ (s : Int) := (by omega); have hs3 : (s : Int) ≤ 31 := (by omega); clear hs1; go_wp2_with fail
 refine HA.out.mono ?_
 rintro e w1 ⟨z, rfl, hz, hB1⟩
 have hL2 : 0 < (us ++ [0, 0]).length := by simp
 have hLn : (us ++ [0, 0]).length = us.length + 2 := by simp
 go_wp2_with (at_builtin; go_loud (refine Gx _ rfl (.tmp 35) (.tmp 36) 45 45 rfl Tryz.underlying45 Tryz.underlying45 w.heap.size _ _ us [0, 0] rfl rfl (hz.keep (Bh _ _)) (Ca _ [0, 0] (Jm (by omega) (Jm (by omega) Bv)) (by simp) _ rfl).rd (by simp; omega) (by have := hB1.size; simp; omega) ?_); intro v1 w2 o1 g1 hb1; obtain ⟨gu, capu, rfl, hR⟩ := o1.form hL2; have hRc := hR.cap; rw [hLn] at hRc)
 have hB2 := Gh (hz.keep (Bh _ _)) (J3 hB1 _) g1 (Nat.le_refl _)
 have hRl := hR.lt
 refine (HB.out w2 hB2).mono ?_
 rintro e w3 ⟨z2, rfl, hz2, hB3⟩
 obtain ⟨gv, capv, rfl, hV⟩ := hz2.form (by rw [HY1.out]; omega)
 have hR1 := (hR.keep hB3).take (la + 1) (by rw [hLn]; omega)
 have hB13 := Ar hB2 hB3
 have hVl2 := hV.lt
 have hVc := hV.cap
 have cT := hV.cell (j := N - 1) (by rw [HY1.out]; omega)
 have cS := hV.cell (j := N - 2) (by rw [HY1.out]; omega)
 have hT := An hdY (N - 1)
 have hS := An hdY (N - 2)
 have hT2 := HY2.out
 rw [HY1.out] at hVc; obtain ⟨top, etop⟩ : ∃ x, x = ys.getD (N - 1) 0 := ⟨_, rfl⟩; obtain ⟨second, esec⟩ : ∃ x, x = ys.getD (N - 2) 0 := ⟨_, rfl⟩; rw [← etop] at cT hT hT2; rw [← esec] at cS hS; have ET := Lib.hid etop; have ES := Lib.hid esec
 have HR1 : Hid (Row w3 w.heap.size gu capu (List.take (la + 1) (us ++ [0, 0]))) := by
  have := hR1
  unfold Row; rw [HU3.out]; exact this
 have hNi1 : (N : Int) - 1 < (ys.length : Int) := by rw [HY1.out]; omega
 have hNi2 : (N : Int) - 2 < (ys.length : Int) := by rw [HY1.out]; omega
 have hNi3 : (0 : Int) ≤ (N : Int) - 2 := (by omega); rw [HY1.out] at hNi1 hNi2
 generalize hU0 : List.take (la + 1) (us ++ [0, 0]) = U0 at *
 clear etop esec g1 hb1 hR hR1 hz hz2 HA HB HL o1 hL2 hLn hdU u1 u2 hU0 c0
 generalize hgy : ys.length = K
 obtain rfl : N = K := by rw [← hgy]; exact HY1.out.symm
 clear hgy; go_wp2_with fail
 go_quiet (fail)
 go_wp2_with (at_make; go_loud (refine Dg _ rfl (.tmp 62) (.tmp 62) 45 rfl Tryz.underlying45 _ _ (la + 1 - N) rfl rfl (by omega) (by omega) (by omega) ?_); intro w4 R0 B0)
 go_step3
 have hM0 : LongMem w w4 gu capu gv capv w3.heap.size (la + 1 - N) ys U0 (List.replicate (la + 1 - N) 0) := by
  have hb3 : Below w3.heap.size w3 (w3.drewN nq) := Be (Below.refl _ _) nq
  have hb4 : Below w3.heap.size w3 w4 := Ar hb3 B0
  exact ⟨HR1.out.keep hb4, (hV.keep hb4).mono (by have := hB2.size; omega), R0.mono (by have := hB13.size; simpa using this), Ar hB13 hb4, by have := hRl; have := hVl2; have := hB3.size; omega⟩
 have hU4 := HU4.out
 have KO0 : KnOut (m * 2 ^ s) (n * 2 ^ s) (List.replicate (la + 1 - N) 0) U0 (la + 1 - N) :=
  Qcf (Dc _) HU4.out HM.out hNM (by have h1 := HS1.out; have : 2 ^ s ≤ 2 ^ 31 := Nat.pow_le_pow_right (by omega) h1; omega) HS2.out (by omega) (fun i => C3 _ i)
 have HK0 := Lib.hid KO0; clear KO0 hU4 cT cS hNi1 hNi2 hNi3 R0 B0 hV hVl2 hRl hB13 HR1 htop hB1 hcb hcam hcbm hca
 generalize w3.heap.size = gq at *
 clear hB3
 have hM0' := Lib.hid hM0
 clear hM0; go_wp2_with fail
 generalize hqn : la + 1 - N = qn at *
 have HQN := Lib.hid hqn; clear hqn
 go_loopw [13] (fun j wr => ∃ (k : Nat) (U Q : List Nat), k ≤ qn ∧ j = .int .i64 ((k : Int) - 1) ∧ Hid (LongMem w wr gu capu gv capv gq qn ys U Q) ∧ Hid (U.length = la + 1) ∧ Hid (Q.length = qn) ∧
   Hid (KnOut (m * 2 ^ s) (n * 2 ^ s) Q U k)) (fun j _ => (intOf j + 1).toNat)
 case atStart => exact ⟨qn, _, _, Nat.le_refl _, rfl, hM0', HU3, by show _ = _; simp, HK0⟩
 case round =>
  obtain ⟨k, U, Q, hk, rfl, hM, hUl, hQl, hKO⟩ := hrel
  by_cases hk1 : 1 ≤ k
  ·obtain ⟨j, rfl⟩ : ∃ j, k = j + 1 := ⟨k - 1, by omega⟩
   have hjN : j + N ≤ la := by have := HQN.out; omega
   have hMo := hM.out
   obtain ⟨k1, ⟨KT⟩, k3, k4, k5, k6⟩ := Qlm hKO.out hMo.u.dig hdY HY1.out hN hUl.out hjN HYV.out ET.out ES.out hT2
   have cU1 := hMo.u.cell (j := j + N) (by rw [hUl.out]; omega)
   have cU0 := hMo.u.cell (j := j + N - 1) (by rw [hUl.out]; omega)
   have cU2 := hMo.u.cell (j := j + N - 2) (by rw [hUl.out]; omega)
   have d1 := An hMo.u.dig (j + N)
   have d0 := An hMo.u.dig (j + N - 1)
   have d2 := An hMo.u.dig (j + N - 2)
   obtain ⟨h1, eh1⟩ : ∃ x, x = U.getD (j + N) 0 := ⟨_, rfl⟩; obtain ⟨h0, eh0⟩ : ∃ x, x = U.getD (j + N - 1) 0 := ⟨_, rfl⟩; obtain ⟨u2, eu2⟩ : ∃ x, x = U.getD (j + N - 2) 0 := ⟨_, rfl⟩; rw [← eh1] at cU1 d1 k1; rw [← eh0] at cU0 d0; rw [← eu2] at cU2 d2; rw [← eh1, ← eh0, ← eu2] at KT; have HU1 := Lib.hid eh1; have HU2 := Lib.hid eu2
   have hor := Ii h0 h1 d0 d1
   have KG0 := Qdi KT (by omega) d2
   obtain ⟨first, efi⟩ : ∃ x, x = h0 + 4294967296 * h1 := ⟨_, rfl⟩; have HFI := Lib.hid efi; have hfb : first < 18446744073709551616 := (by omega); rw [← efi] at hor KG0; have ej : ((j + 1 : Nat) : Int) - 1 = (j : Int) := (by omega); rw [ej]; have HKG0 := Lib.hid KG0; have HK1 := Lib.hid k1; have HK3 := Lib.hid k3; have HK4 := Lib.hid k4; have HK5 := Lib.hid k5; have HK6 := Lib.hid k6; clear eh1 eh0 eu2 efi ej KG0 k1 k3 k4 k5 k6 hMo hk; have ib1 : (j : Int) + (N : Int) < (la : Int) + 1 := (by omega); have ib2 : (j : Int) + (N : Int) - 1 < (la : Int) + 1 := (by omega); have ib3 : (j : Int) + (N : Int) - 2 < (la : Int) + 1 := (by omega); have ib4 : (0 : Int) ≤ (j : Int) + (N : Int) - 1 := (by omega); have ib5 : (0 : Int) ≤ (j : Int) + (N : Int) - 2 := (by omega)
   have htz : ((top : Int) == 0) = false := by rw [beq_eq_false_iff_ne]; omega
   have e1 : (first : Int) / (top : Int) = ((first / top : Nat) : Int) := by rw [Int.natCast_ediv]
   have e2 : (first : Int) % (top : Int) = ((first % top : Nat) : Int) := by rw [Int.natCast_emod]
   have hfq : first / top ≤ 8589934592 := by
    have : first / top < 8589934593 := by
     rw [Nat.div_lt_iff_lt_mul (by omega)]; omega
    omega
   have hfr : first % top < top := Nat.mod_lt _ (by omega)
   have q1 : (first : Int) / (top : Int) ≤ 8589934592 := by rw [e1]; omega
   have q2 : (0 : Int) ≤ (first : Int) / (top : Int) := by rw [e1]; exact Int.natCast_nonneg _
   have q3 : (0 : Int) ≤ (first : Int) % (top : Int) := by rw [e2]; exact Int.natCast_nonneg _
   have q4 : (first : Int) % (top : Int) < 4294967296 := by rw [e2]; omega
   have E1 := Lib.hid e1; have E2 := Lib.hid e2; clear e1 e2; go_wp2_with fail
   go_quiet (fail)
   go_wp2_with fail
   go_quiet (fail)
   go_upto_block 2 with fail
   go_cut [15, 16] from 67 to 229 (fun g r wx => ∃ guess rest : Nat, g = .int .u64 guess ∧ r = .int .u64 rest ∧ guess < 4294967296 ∧ Hid (LongMem w wx gu capu gv capv gq qn ys U Q) ∧ Hid (val U / 4294967296 ^ j / (n * 2 ^ s) ≤ guess) ∧ Hid (guess ≤ val U / 4294967296 ^ j / (n * 2 ^ s) + 1))
   case first =>
    go_wp2_with fail
    go_loopw [15, 16] (fun g r wx => ∃ guess rest : Nat, g = .int .u64 guess ∧ r = .int .u64 rest ∧ guess ≤ 8589934592 ∧ rest < 4294967296 ∧ Hid (LongMem w wx gu capu gv capv gq qn ys U Q) ∧ Hid (KnG (val U / 4294967296 ^ j / (n * 2 ^ s)) top first guess rest)) (fun g _ _ => (intOf g).toNat)
    case atStart => exact ⟨first / top, first % top, by rw [E1.out], by rw [E2.out], hfq, by omega, (hM.out.drewN _).drewN _, HKG0⟩
    case round =>
     obtain ⟨guess, rest, rfl, rfl, hgb, hrb, hMx, hKG⟩ := hrel
     have cU2' := hMx.out.u.cell (j := j + N - 2) (by rw [hUl.out]; omega)
     rw [← HU2.out] at cU2'
     have hKG2 := hKG.out
     rw [HFI.out] at hKG2
     have hor2 := Ii u2 rest d2 hrb
     obtain ⟨lim, elim⟩ : ∃ x, x = u2 + 4294967296 * rest := ⟨_, rfl⟩; rw [← elim] at hor2; have hlb : lim < 18446744073709551616 := (by omega); have HLIM := Lib.hid elim; clear elim hor cU1 cU0 cU2
     by_cases hA : 4294967296 ≤ guess
     ·obtain ⟨b1, b2⟩ := Ru (x := (guess : Int)) (by omega)
      · -- too great by itself
       have hq := Tp KT hKG2 HK3.out (.inl hA)
       have KG' := Yv hKG2 hq
       rw [← HFI.out] at KG'
       have HKG' := Lib.hid KG'
       have hg1' : 1 ≤ guess := Nat.lt_of_le_of_lt (Nat.zero_le _) hq
       have HQ1 := Lib.hid hq; clear hq; have hg1 : (1 : Int) ≤ (guess : Int) := (by omega)
       by_cases hbr : 4294967296 ≤ rest + top
       ·have hone := Ya KG' HFI.out d0 HK1.out hbr
        have hex := Ur KT (by rw [← HFI.out]; exact KG') hone hS hbr HK5.out
        have HONE := Lib.hid hone; have HEX := Lib.hid hex; obtain ⟨b3, b4⟩ := Ru (x := (rest : Int) + (top : Int)) (by omega); clear hone hex KG' hKG2 hbr; go_wp2; go_meet
        case rel => exact ⟨guess - 1, rest + top, by go_num, by go_num, HONE.out, hMx, HKG'.out.2, HEX.out⟩
       ·have b3 := Sb (x := (rest : Int) + (top : Int)) (by omega) (by omega)
        have hbr' : rest + top < 4294967296 := (by omega); clear KG' hKG2 hbr; go_wp2
        go_roundw
        case rel => exact ⟨guess - 1, rest + top, by go_num, by go_num, by omega, hbr', hMx, HKG'⟩
        case measure => simp [intOf]; omega
     ·have b1 := Sb (x := (guess : Int)) (by omega) (by omega)
      have hgl : guess < 4294967296 := (by omega)
      have hmi := Kk hgl hS
      by_cases hC : lim < guess * second
      ·have hCi : (lim : Int) < (guess : Int) * (second : Int) := by rw [← Int.natCast_mul]; omega
       have hq := Tp KT hKG2 HK3.out (.inr (by rw [← Nat.mul_comm 4294967296 rest, Nat.add_comm, ← HLIM.out]; exact hC))
       have KG' := Yv hKG2 hq
       rw [← HFI.out] at KG'
       have HKG' := Lib.hid KG'
       have hg1' : 1 ≤ guess := Nat.lt_of_le_of_lt (Nat.zero_le _) hq
       have HQ1 := Lib.hid hq; clear hq; have hg1 : (1 : Int) ≤ (guess : Int) := (by omega)
       by_cases hbr : 4294967296 ≤ rest + top
       ·have hone := Ya KG' HFI.out d0 HK1.out hbr
        have hex := Ur KT (by rw [← HFI.out]; exact KG') hone hS hbr HK5.out
        have HONE := Lib.hid hone; have HEX := Lib.hid hex; obtain ⟨b3, b4⟩ := Ru (x := (rest : Int) + (top : Int)) (by omega); clear hone hex KG' hKG2 hbr; go_wp2; go_meet
        case rel => exact ⟨guess - 1, rest + top, by go_num, by go_num, HONE.out, hMx, HKG'.out.2, HEX.out⟩
       ·have b3 := Sb (x := (rest : Int) + (top : Int)) (by omega) (by omega)
        have hbr' : rest + top < 4294967296 := (by omega); clear KG' hKG2 hbr; go_wp2
        go_roundw
        case rel => exact ⟨guess - 1, rest + top, by go_num, by go_num, by omega, hbr', hMx, HKG'⟩
        case measure => simp [intOf]; omega
      ·have hCi : decide ((lim : Int) < (guess : Int) * (second : Int)) = false := by
        rw [decide_eq_false_iff_not, ← Int.natCast_mul]; omega
       have hex := Qgg KT hKG2 (by omega) hgl (by rw [Nat.mul_comm rest, Nat.add_comm, ← HLIM.out]; omega)
       have HEX := Lib.hid hex; clear hex hC hKG2 KT hfq hfr q1 q2 q3 q4 ib1 ib2 ib3 ib4; go_wp2_with fail; go_meet
       case rel => exact ⟨guess, rest, rfl, rfl, hgl, hMx, hKG.out.2, HEX.out⟩
   case rest =>
    obtain ⟨guess, rest, rfl, rfl, hgl, hMc, hge, hle⟩ := hcut; clear hor cU1 cU0 cU2 KT hfq hfr q1 q2 q3 q4 HKG0 HFI hfb HU2 htz ib2 ib3 ib4 ib5 hM; go_wp2_with fail
    go_loopw [17, 18, 124] (fun b c i wr => ∃ (k bn cn : Nat) (U' : List Nat), k ≤ N ∧ i = .int .i64 k ∧ b = .int .u64 bn ∧ c = .int .u64 cn ∧ bn ≤ 1 ∧ cn < 4294967296 ∧ Hid (LongMem w wr gu capu gv capv gq qn ys U' Q) ∧ Hid (U'.length = la + 1) ∧
      Hid (H9 (val U) ys U' j N guess h1 k bn cn)) (fun _ _ i _ => N - (intOf i).toNat)
    case atStart => exact ⟨0, 0, 0, U, by omega, rfl, rfl, rfl, by omega, by omega, hMc, hUl, HK4.out, HU1.out.symm, by simp [Ay]⟩
    case round =>
     obtain ⟨k, bn, cn, U', hk, rfl, rfl, rfl, hbn, hcn, hMd, hUl', hS3⟩ := hrel; clear hMc
     by_cases hlt : k < N
     ·have cV := hMd.out.v.cell (j := k) (by rw [HY1.out]; exact hlt)
      have cU := hMd.out.u.cell (j := j + k) (by rw [hUl'.out]; omega)
      have fU := hMd.out.u.free (j + k)
      have dd := An hdY k
      have du := An hMd.out.u.dig (j + k)
      obtain ⟨d, ed⟩ : ∃ x, x = ys.getD k 0 := ⟨_, rfl⟩; obtain ⟨u, eu⟩ : ∃ x, x = U'.getD (j + k) 0 := ⟨_, rfl⟩; rw [← ed] at cV dd; rw [← eu] at cU du
      have hst := fun x b' he => H9.step (x := x) (b' := b') hS3.out hlt HY1.out hUl'.out hjN eu ed he
      clear ed eu; obtain ⟨hc1, hc2⟩ := Qim hcn hgl dd
      have hmi := Kk hgl dd
      have hand := Qj7 _ hc1
      have et : ((cn + guess * d : Nat) : Int) = (cn : Int) + (guess : Int) * (d : Int) := by rw [Int.natCast_add, Int.natCast_mul]
      rw [et] at hand
      have hdv : ((cn : Int) + (guess : Int) * (d : Int)) / 4294967296 = (((cn + guess * d) / 4294967296 : Nat) : Int) := by rw [← et, Int.natCast_ediv]; rfl
      have hlo : (cn + guess * d) % 4294967296 < 4294967296 := Nat.mod_lt _ (by omega)
      generalize (cn + guess * d) % 4294967296 = lo, (cn + guess * d) / 4294967296 = hi at *
      clear et hc1; have ib : (j : Int) + (k : Int) < (la : Int) + 1 := (by omega)
      by_cases hge : lo + bn ≤ u
      ·have HST := Lib.hid (hst (u - lo - bn) 0 (by omega)); clear hst; have hgi : (0 : Int) ≤ (u : Int) - (lo : Int) := (by omega); have hgi2 : (0 : Int) ≤ (u : Int) - (lo : Int) - (bn : Int) := (by omega); go_wp2_with fail
       go_roundw
       case rel =>
        rw [show (u : Int) - (lo : Int) - (bn : Int) = ((u - lo - bn : Nat) : Int) by omega, show ((u - lo - bn : Nat) : Int) / 9223372036854775808 = ((0 : Nat) : Int) by omega]
        exact ⟨k + 1, 0, hi, _, by omega, by go_num, rfl, rfl, by omega, hc2, hMd.out.setU (j + k) (by omega), by show _ = _; rw [List.length_set]; exact hUl'.out, HST.out⟩
       case measure => simp [intOf]; omega
      ·have HST := Lib.hid (hst (u + 4294967296 - lo - bn) 1 (by omega)); clear hst; have hgn : (u : Int) - (lo : Int) - (bn : Int) < 0 := (by omega); obtain ⟨hw1, hw2⟩ := Uy du hlo hbn (by omega); have HW1 := Lib.hid hw1; have HW2 := Lib.hid hw2; clear hw1 hw2; go_wp2_with fail
       go_roundw
       case rel =>
        rw [HW1.out, HW2.out]
        exact ⟨k + 1, 1, hi, _, by omega, by go_num, rfl, rfl, by omega, hc2, hMd.out.setU (j + k) (by omega), by show _ = _; rw [List.length_set]; exact hUl'.out, HST.out⟩
       case measure => simp [intOf]; omega
     ·obtain rfl : N = k := by omega
      have cU := hMd.out.u.cell (j := j + N) (by rw [hUl'.out]; omega)
      have fU := hMd.out.u.free (j + N)
      rw [hS3.out.2.1] at cU
      have hjq : j < qn := by have := HQN.out; omega
      have cQ := hMd.out.q.cell (j := j) (by rw [hQl.out]; exact hjq)
      have fQ := hMd.out.q.free j
      have hjq2 : (j : Int) < (qn : Int) := (by omega)
      generalize Q.getD j 0 = zq at *
      by_cases hge2 : cn + bn ≤ h1
      ·have HKO := Lib.hid (Qgr hKO.out hS3.out HY1.out HYV.out HK5.out hUl'.out hjN hcn (x := h1 - cn - bn) (by omega) hge.out (by rw [hQl.out]; exact hjq))
       have hgi : (0 : Int) ≤ (h1 : Int) - (cn : Int) := (by omega); have hgi2 : (0 : Int) ≤ (h1 : Int) - (cn : Int) - (bn : Int) := (by omega); have hz63 : ((h1 : Int) - (cn : Int) - (bn : Int)) / 9223372036854775808 = 0 := (by omega); go_wp2_with fail
       go_roundw
       case rel =>
        rw [show (h1 : Int) - (cn : Int) - (bn : Int) = ((h1 - cn - bn : Nat) : Int) by omega]
        exact ⟨j, _, _, by omega, rfl, (hMd.out.setU (j + N) (by omega)).setQ j hgl, by show _ = _; rw [List.length_set]; exact hUl'.out, by show _ = _; rw [List.length_set]; exact hQl.out, HKO.out⟩
       case measure => simp [intOf]
      ·have HWB := Lib.hid (Ql1 hS3.out HY1.out HYV.out hUl'.out hjN hcn (x := h1 + 4294967296 - cn - bn) (by omega) (by omega) hMd.out.u.dig hge.out hle.out); obtain ⟨hw1, hw2⟩ := Uy d1 hcn hbn (by omega)
       have hw3 : IntKind.u64.wrap (IntKind.u64.wrap ((h1 : Int) - (cn : Int)) - (bn : Int)) / 9223372036854775808 = 1 := hw2
       clear hw2; have hM3 := Lib.hid ((hMd.out.setU (j + N) (show h1 + 4294967296 - cn - bn < 4294967296 by omega)).setQ j hgl)
       go_upto_region 30 with fail
       clear hw1 hw3
       revert hM3
       generalize (wr.setCell { block := gu, off := j + N } (.int .u32 ((h1 + 4294967296 - cn - bn : Nat) : Int))).setCell { block := gq, off := j } (.int .u32 (guess : Int)) = wz
       intro hM3; obtain ⟨xx, exx⟩ : ∃ x, x = h1 + 4294967296 - cn - bn := ⟨_, rfl⟩; have hxx : xx < 4294967296 := (by omega); rw [← exx] at hM3 HWB; obtain ⟨U2, eU2⟩ : ∃ x, x = U'.set (j + N) xx := ⟨_, rfl⟩; rw [← eU2] at hM3 HWB
       have hU2l : Hid (U2.length = la + 1) := by show _ = _; rw [eU2, List.length_set]; exact hUl'.out
       have cQ2 := hM3.out.q.cell (j := j) (by rw [List.length_set, hQl.out]; exact hjq)
       rw [Ml _ _ _ (by rw [hQl.out]; exact hjq)] at cQ2
       have fQ2 := hM3.out.q.free j
       have hg1' : 1 ≤ guess := by rw [HWB.out.1]; exact Nat.le_add_left _ _
       have hg1 : (1 : Int) ≤ (guess : Int) := (by omega)
       have hM4 := hM3.out.setQ j (d := guess - 1) (by omega)
       rw [List.set_set, show ((guess - 1 : Nat) : Int) = (guess : Int) - 1 by omega] at hM4
       have HM4 := Lib.hid hM4; have HEXX := Lib.hid exx; clear hM4 exx eU2 cU fU cQ fQ hS3 hMd hge2 hM3; go_wp2_with fail
       go_loopw [18, 193] (fun c i wr => ∃ (k cn : Nat) (U3 : List Nat), k ≤ N ∧ i = .int .i64 k ∧ c = .int .u64 cn ∧ cn ≤ 1 ∧ Hid (LongMem w wr gu capu gv capv gq qn ys U3 (Q.set j (guess - 1))) ∧ Hid (U3.length = la + 1) ∧
         Hid (L4 (val U2) ys U3 j N xx k cn)) (fun _ i _ => N - (intOf i).toNat)
       case atStart => exact ⟨0, 0, U2, by omega, rfl, rfl, by omega, HM4, hU2l, HWB.out.2.1, HWB.out.2.2.1, by simp [Ay]⟩
       case round =>
        obtain ⟨k, cc, U3, hk, rfl, rfl, hcc, hM5, hU3l, hA⟩ := hrel; clear HM4 cQ2 fQ2
        by_cases hlt : k < N
        ·have cV := hM5.out.v.cell (j := k) (by rw [HY1.out]; exact hlt)
         have cU := hM5.out.u.cell (j := j + k) (by rw [hU3l.out]; omega)
         have fU := hM5.out.u.free (j + k)
         have dd := An hdY k
         have du := An hM5.out.u.dig (j + k)
         obtain ⟨d, ed⟩ : ∃ x, x = ys.getD k 0 := ⟨_, rfl⟩; obtain ⟨u, eu⟩ : ∃ x, x = U3.getD (j + k) 0 := ⟨_, rfl⟩; rw [← ed] at cV dd; rw [← eu] at cU du; have HST := Lib.hid (L4.step hA.out hlt HY1.out hU3l.out hjN eu ed); clear ed eu; have ib : (j : Int) + (k : Int) < (la : Int) + 1 := (by omega); go_wp2_with fail
         go_roundw
         case rel =>
          have e0 : (cc : Int) + ((u : Int) + (d : Int)) = ((cc + (u + d) : Nat) : Int) := (by omega)
          rw [e0, show ((cc + (u + d) : Nat) : Int) % 4294967296 = (((cc + (u + d)) % 4294967296 : Nat) : Int) by omega]
          exact ⟨k + 1, (cc + (u + d)) / 4294967296, _, by omega, by go_num, by go_num, by omega, hM5.out.setU (j + k) (Nat.mod_lt _ (by omega)), by show _ = _; rw [List.length_set]; exact hU3l.out, HST.out⟩
         case measure => simp [intOf]; omega
        ·obtain rfl : N = k := by omega
         have cU := hM5.out.u.cell (j := j + N) (by rw [hU3l.out]; omega)
         have fU := hM5.out.u.free (j + N)
         rw [hA.out.2.1] at cU; have hq1 : guess - 1 + 1 = guess := (by omega)
         have hq2 : guess - 1 = val U / 4294967296 ^ j / (n * 2 ^ s) := by rw [HWB.out.1]; rfl
         have HKO := Lib.hid (Qax (q := guess - 1) hKO.out hA.out (by rw [hq1]; exact HWB.out.2.2.2) HY1.out HYV.out HK5.out HK6.out hU3l.out hjN hM5.out.u.dig hq2 (by rw [hQl.out]; exact hjq))
         clear hq2; go_wp2_with fail
         go_roundw
         case rel =>
          have e0 : ((xx : Int) + (cc : Int)) % 4294967296 = (((xx + cc) % 4294967296 : Nat) : Int) := (by omega); rw [e0]
          exact ⟨j, _, _, by omega, rfl, hM5.out.setU (j + N) (Nat.mod_lt _ (by omega)), by show _ = _; rw [List.length_set]; exact hU3l.out, by show _ = _; rw [List.length_set]; exact hQl.out, HKO.out⟩
         case measure => simp [intOf]
  ·obtain rfl : k = 0 := by omega
   obtain ⟨e1, e2, e3⟩ := Qgv hKO.out (Nat.pow_pos (n := s) (by omega))
   have hMo := hM.out
   have hql := hMo.q.cap
   have hul := hMo.u.cap
   have hRq : ∀ W : World, Below wr.heap.size wr W → Calls Tryz.prog 206 #[.slice (some ⟨gq, 0, none⟩) qn qn] W fun e W' => ∃ v, e = .returned v ∧ Own W w.heap.size v (nf (m / n)) ∧ W = W' := fun W hb => by
    rw [← e1]; exact Gi W _ _ _ _ _ (hMo.q.keep hb) hQl.out
   have hNl : (U.take N).length = N := by rw [List.length_take, hUl.out]; omega
   have hvt : val (U.take N) / 2 ^ s = m % n := by
    rw [Om (Y5 (Nat.lt_trans e3 (by have := C9 ys hdY; rw [HY1.out, HYV.out] at this; exact this))), e2]
   have hRu : ∀ W : World, Below wr.heap.size wr W → Calls Tryz.prog 245 #[.slice (some ⟨gu, 0, none⟩) N capu, .int .u64 (s : Int)] W fun e W' => ∃ z, e = .returned z ∧ Own W' W.heap.size z (nf (m % n)) ∧ Below W.heap.size W W' := fun W hb => by
    rw [← hvt]
    have hk := hMo.u.keep hb
    have ht := Own.take hk N (by rw [hUl.out]; omega)
    refine Qd1 W _ _ s ht.rd (by rw [hNl]; omega) (by omega)
   have HT := Lib.hid hRq; have HS := Lib.hid hRu; have HB := Lib.hid hMo.below; rw [hUl.out] at hul
   have hul2 : la + 1 ≤ capu := hul.1
   have hNi : (N : Int) ≤ (capu : Int) := (by omega); clear hRq hRu hMo e1 e2 e3 hvt hNl hM hKO hQl hUl hql hul
   go_upto_region 40 with fail
   go_region_with (first | (go_at_call 206; go_loud (refine (HT.out _ (by first | exact Below.refl _ _ | exact Be (Below.refl _ _) _ | exact hbS)).mono ?_); rintro e wT ⟨vT, rfl, hvT, rfl⟩) | (go_at_call 245; go_loud (refine (HS.out _ (by first | exact Below.refl _ _ | exact Be (Below.refl _ _) _)).mono ?_); rintro e wS ⟨vS, rfl, hvS, hbS⟩))
   all_goals (go_wp2_with fail)
   all_goals (rw [Exit.noGoto_ret])
   all_goals go_ret2
   all_goals (refine ⟨_, _, rfl, ?_, ?_, ?_⟩)
   all_goals first
    | exact (hvT.keep hbS)
    | exact hvT
    | exact hvS.mono HB.out.size
    | exact (hvS.keep (Below.refl _ _)).mono HB.out.size
    | exact Ar HB.out hbS
    | exact Ar (b := wr.drew) HB.out.drew hbS
    | exact Ar (b := wr.drew) (Be HB.out 1) hbS
end Go.Proofs.YtpnpnlmlamfpmaaGreatDoor
