/-
  num.Floor, the natural numbers and integers of the tape (as in the claim of layer 2).
-/
import Derived.Test.YtnkfbkdcplbgoaaGreatDoorFmt
import Derived.Test.YtnkfbkdcplbgoaaGreatDoorQ
namespace Go.Proofs.YtnkfbkdcplbgoaaGreatDoor
open Go.RowKit

theorem ret_bxt {P : Program} {fn : Func} {R : Ending → World → Prop} {a : Act} {W : World} {b : Nat} {p u : Tmp} {ty t : TypeId} {d : TypeDesc} {l : List Value} [hb : Bx W b t l] (hr : fn.results = #[.cell p ty, .tmp u])
    (hu : P.underlying ty = some d) (hd : (match d with | .struct _ | .array _ _ => true | _ => false) = true) (hi : (P.info? ty).map (·.size) = some l.length)
    (hp : a.tmps.getD p undef = .pointer (some ⟨b, 0, none⟩)) (hdf : a.defers = []) (hR : R (.returned (.tuple #[.agg l.toArray, a.tmps.getD u undef])) W) : bodyPost P fn R .ret a W :=
  ret_ct hr hp (loadVar_at W b ty l d hu hd hi (fun j hj => by rw [cell_bx, List.getElem?_eq_getElem hj])) hdf hR
/-- Floor: quotient and rest. -/
def FlRet (w : World) (x d : Int) (k : Nat) (e : Ending) (w' : World) : Prop := ∃ g a l c a2 l2 c2, e = .returned (.tuple #[.agg #[.bool g, .slice a l c], .slice a2 l2 c2]) ∧ CZ w' (.agg #[.bool g, .slice a l c]) (x / d) k ∧ CN w' (.slice a2 l2 c2) (x % d).natAbs k ∧ Below w.heap.size w w'
theorem Calls.cFl {P : Program} {f : FuncId} {args : Array Value} {w : World} {x d : Int} {k : Nat} {K : Ending → World → Prop} (h : Calls P f args w (FlRet w x d k))
    (hK : ∀ w' [Kp1 w w'] g a l c a2 l2 c2 [CZ w' (.agg #[.bool g, .slice a l c]) (x / d) k] [CN w' (.slice a2 l2 c2) (x % d).natAbs k], K (.returned (.tuple #[.agg #[.bool g, .slice a l c], .slice a2 l2 c2])) w') : Calls P f args w K := by
  refine h.mono ?_
  rintro e w' ⟨g, a, l, c, a2, l2, c2, rfl, h1, h2, hb⟩
  exact @hK w' ⟨hb⟩ g a l c a2 l2 c2 h1 h2
set_option maxRecDepth 100000 in
set_option maxHeartbeats 4000000 in
set_option synthInstance.maxSize 100000 in
set_option synthInstance.maxHeartbeats 1000000 in
theorem floorC {w : World} {g1 : Bool} {a1 a2 : Option Addr} {l1 c1 l2 c2 : Nat} {x : Int} {d k1 k2 : Nat} [h1 : CZ w (.agg #[.bool g1, .slice a1 l1 c1]) x k1] [h2 : CN w (.slice a2 l2 c2) d k2] (b : k1 ≤ 200000 ∧ k2 ≤ 200000) (hd : d ≠ 0) :
    Calls Tryz.prog 54 #[.agg #[.bool g1, .slice a1 l1 c1], .slice a2 l2 c2] w (FlRet w x d (max k1 k2 + 3)) := by
  have hg := (zz_of h1).1
  have i1 : CN w (.slice a1 l1 c1) x.natAbs k1 := ⟨(zz_of h1).2⟩
  have HLE := Nat.le_of_lt (Nat.mod_lt x.natAbs (Nat.pos_of_ne_zero hd))
  by_cases hx : x < 0
  · have HX := Lib.hid (show x = -(x.natAbs : Int) by omega)
    have H0 := Lib.hid (@dm_neg0 false x.natAbs d hd)
    have H1 := Lib.hid (@dm_neg false x.natAbs d hd)
    obtain rfl : g1 = true := by rw [hg]; simp [hx]
    clear hg hx
    go_enter Tryz.func54, Tryz.ntmps54
    go_wp2_with fail
    with_reducible refine Calls.cQR (divideC (by omega) hd) ?_
    intro W1 _ aq lq cq ar lr cr _ i2
    have hl := i2.out.len
    by_cases h0 : x.natAbs % d = 0
    · have hl0 : lr = 0 := by rw [hl, h0]; rfl
      have HE := Lib.hid (H0.out h0)
      subst hl0
      clear hl h0
      go_wp2_with (first
    | (go_at_call 88; (with_reducible refine Calls.cSg (makeC) ?_); intros)
    | (go_at_call 75; (with_reducible refine Calls.cN (oneC) ?_); intros)
    | (go_at_call 110; (with_reducible refine Calls.cN (numSumC (by omega)) ?_); intros)
    | (go_at_call 111; (with_reducible refine Calls.cN (numLessC (by omega) HLE) ?_); intros))
      refine ret_bxt rfl Tryz.underlying43 rfl (by kernel_rfl) rfl rfl ?_
      exact ⟨_, _, _, _, _, _, _, rfl, CZ.cast inferInstance (by have e := HE.out.1; rw [← HX.out] at e; exact e) (by omega), CN.cast inferInstance (by have e := HE.out.2; rw [← HX.out] at e; exact (congrArg Int.natAbs e)) (by omega), Kp.out⟩
    · have hl0 : 0 < lr := by rw [hl]; exact nf_len_pos h0
      have HE := Lib.hid (H1.out h0)
      clear hl h0
      go_wp2_with (first
    | (go_at_call 88; (with_reducible refine Calls.cSg (makeC) ?_); intros)
    | (go_at_call 75; (with_reducible refine Calls.cN (oneC) ?_); intros)
    | (go_at_call 110; (with_reducible refine Calls.cN (numSumC (by omega)) ?_); intros)
    | (go_at_call 111; (with_reducible refine Calls.cN (numLessC (by omega) HLE) ?_); intros))
      refine ret_bxt rfl Tryz.underlying43 rfl (by kernel_rfl) rfl rfl ?_
      exact ⟨_, _, _, _, _, _, _, rfl, CZ.cast inferInstance (by have e := HE.out.1; rw [← HX.out] at e; exact e) (by omega), CN.cast inferInstance (by have e := HE.out.2; rw [← HX.out] at e; exact (congrArg Int.natAbs e)) (by omega), Kp.out⟩
  · have HX := Lib.hid (show x = (x.natAbs : Int) by omega)
    have H0 := Lib.hid (@dm_pos false x.natAbs d)
    obtain rfl : g1 = false := by rw [hg]; simp; omega
    clear hg hx
    go_enter Tryz.func54, Tryz.ntmps54
    go_wp2_with fail
    with_reducible refine Calls.cQR (divideC (by omega) hd) ?_
    intro W1 _ aq lq cq ar lr cr _ i2
    have hl := i2.out.len
    clear hl
    go_wp2_with (first
    | (go_at_call 88; (with_reducible refine Calls.cSg (makeC) ?_); intros)
    | (go_at_call 75; (with_reducible refine Calls.cN (oneC) ?_); intros)
    | (go_at_call 110; (with_reducible refine Calls.cN (numSumC (by omega)) ?_); intros)
    | (go_at_call 111; (with_reducible refine Calls.cN (numLessC (by omega) HLE) ?_); intros))
    refine ret_bxt rfl Tryz.underlying43 rfl (by kernel_rfl) rfl rfl ?_
    exact ⟨_, _, _, _, _, _, _, rfl, CZ.cast inferInstance (by have e := H0.out.1; rw [← HX.out] at e; exact e) (by omega), CN.cast inferInstance (by have e := H0.out.2; rw [← HX.out] at e; exact (congrArg Int.natAbs e)) (by omega), Kp.out⟩

/-- A number is read off the tape. -/
def TNRet (w : World) (t : Nat) (k : Nat) (e : Ending) (w' : World) : Prop := ∃ (a : Option Addr) (l c : Nat) (n : Nat), e = .returned (.slice a l c) ∧ CN w' (.slice a l c) n k ∧ Ct w' t ∧ Gb w w' t
theorem Calls.cTN {P : Program} {f : FuncId} {args : Array Value} {w : World} {t k : Nat} {K : Ending → World → Prop} [ht : Ct w t] (h : Calls P f args w (TNRet w t k))
    (hK : ∀ w' [Tp1 w w' t] [Ct w' t] (a : Option Addr) (l c : Nat) (n : Nat) [CN w' (.slice a l c) n k], K (.returned (.slice a l c)) w') : Calls P f args w K := by
  refine h.mono ?_
  rintro e w' ⟨a, l, c, n, rfl, hx, hc, hb⟩
  exact @hK w' ⟨hb.out, ht.out⟩ hc a l c n hx
/-- A number is read off the tape. -/
def TZRet (w : World) (t : Nat) (k : Nat) (e : Ending) (w' : World) : Prop := ∃ (g : Bool) (a : Option Addr) (l c : Nat) (z : Int), e = .returned (.agg #[.bool g, .slice a l c]) ∧ CZ w' (.agg #[.bool g, .slice a l c]) z k ∧ Ct w' t ∧ Gb w w' t
theorem Calls.cTZ {P : Program} {f : FuncId} {args : Array Value} {w : World} {t k : Nat} {K : Ending → World → Prop} [ht : Ct w t] (h : Calls P f args w (TZRet w t k))
    (hK : ∀ w' [Tp1 w w' t] [Ct w' t] (g : Bool) (a : Option Addr) (l c : Nat) (z : Int) [CZ w' (.agg #[.bool g, .slice a l c]) z k], K (.returned (.agg #[.bool g, .slice a l c])) w') : Calls P f args w K := by
  refine h.mono ?_
  rintro e w' ⟨g, a, l, c, z, rfl, hx, hc, hb⟩
  exact @hK w' ⟨hb.out, ht.out⟩ hc g a l c z hx
theorem tapeNatC {w : World} {t : Nat} {d : Int} [ht : Ct w t] (b : 0 ≤ d ∧ d ≤ 1000) : Calls Tryz.prog 86 #[.pointer (some ⟨t, 0, none⟩), .int .i64 d] w (TNRet w t d.toNat) := by
  refine (tapeNatW ht.out b.1 b.2).mono ?_
  rintro e w' ⟨a, l, c, m, rfl, hn, hc, hb⟩
  exact ⟨a, l, c, m, rfl, ⟨hn⟩, ⟨hc⟩, ⟨hb⟩⟩
theorem natsC {w : World} {a1 : Option Addr} {l1 c1 m k1 : Nat} {k : Int} [h1 : CN w (.slice a1 l1 c1) m k1] (b : k1 ≤ 900000 ∧ 0 ≤ k ∧ k ≤ 1000000) : Calls Tryz.prog 66 #[.slice a1 l1 c1, .int .i64 k] w (RetR w m (k1 + 2)) :=
  natsW h1.out b.1 b.2.1 b.2.2
set_option maxRecDepth 100000 in
set_option maxHeartbeats 4000000 in
set_option synthInstance.maxSize 100000 in
set_option synthInstance.maxHeartbeats 1000000 in
theorem tapeIntC {w : World} {t : Nat} {d : Int} [ht : Ct w t] (b : 0 ≤ d ∧ d ≤ 1000) : Calls Tryz.prog 133 #[.pointer (some ⟨t, 0, none⟩), .int .i64 d] w (TZRet w t d.toNat) := by
  go_enter Tryz.func133, Tryz.ntmps133
  go_wp2_with (first
    | (go_at_call 29; (with_reducible refine Calls.cNext (nextC (by omega)) ?_); intros)
    | (go_at_call 86; (with_reducible refine Calls.cTN (tapeNatC (by omega)) ?_); intros)
    | (go_at_call 88; (with_reducible refine Calls.cSg (makeC) ?_); intros))
  refine ret_bx rfl Tryz.underlying43 rfl (by kernel_rfl) rfl rfl rfl ?_
  exact ⟨_, _, _, _, _, rfl, inferInstance, inferInstance, inferInstance⟩
end Go.Proofs.YtnkfbkdcplbgoaaGreatDoor
