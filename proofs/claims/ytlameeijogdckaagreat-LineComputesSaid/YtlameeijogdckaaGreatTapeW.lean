/-
  The tape of ints: its contracts in the words of XWord; readings are kept while it is read on.
  Printed by a small program (mktape.py).
-/
import Derived.Test.YtlameeijogdckaaGreatMem
import Derived.Test.YtlameeijogdckaaGreatTape
import Derived.Test.YtlameeijogdckaaGreatSqrt
namespace Go.Proofs.YtlameeijogdckaaGreat
open Go.RowKit

theorem Rd.tp {w w' : World} {g : Nat} {v : Value} {l : List Nat} (h : Rd w v l) (ht : TapeAt w g) (hg : w.grownBy w' (some g)) : Rd w' v l := by
  obtain ⟨a, cap, rfl, h1, h2, h3, h4⟩ := h
  refine ⟨a, cap, rfl, h1, h2, h3, fun h0 => ?_⟩
  obtain ⟨b, off, rfl, hc⟩ := h4 h0
  refine ⟨b, off, rfl, fun i hi => ?_⟩
  have hb : b ≠ g := by
    rintro rfl
    obtain ⟨a, n, c, at_, zs, hh, _⟩ := ht
    have := hc i hi
    rw [cell_of_row w b (off + i) _ _ _ hh] at this
    match off + i, this with
    | 0, this => simp at this
    | 1, this => simp at this
    | k + 2, this => simp at this
  have hlt := lt_of_cell (hc i hi)
  rw [World.cell?_of_block (hg.block b hlt (fun e => hb (Option.some.inj e)))]
  exact hc i hi
theorem Nn.tp2 {W W2 : World} {g : Nat} {v : Value} {n k : Nat} (hg : W.grownBy W2 (some g)) (ht : TapeAt W g) (h : Nn W v n k) : Nn W2 v n k := by
  exact ⟨h.1.tp ht hg, h.2⟩
theorem Rr.tp2 {W W2 : World} {g : Nat} {v : Value} {n k : Nat} (hg : W.grownBy W2 (some g)) (ht : TapeAt W g) (h : Rr W v n k) : Rr W2 v n k := by
  obtain ⟨l, h1, h2⟩ := h
  exact ⟨l, h1.tp ht hg, h2⟩
theorem TapeAt.keep2 {W W2 : World} {g : Nat} (hb : Below W.heap.size W W2) (h : TapeAt W g) : TapeAt W2 g := h.keep hb
theorem TapeAt.al {W : World} {g : Nat} {o : Obj} (h : TapeAt W g) : TapeAt (W.alloc o) g := h.keep (blw_one _ _)
theorem TapeAt.dr {W : World} {g : Nat} (h : TapeAt W g) : TapeAt W.drew g := h.keep (blw_drew (Below.refl _ _))
theorem TapeAt.drN {W : World} {g : Nat} {j : Nat} (h : TapeAt W g) : TapeAt (W.drewN j) g := h.keep (blw_drewN (Below.refl _ _) j)
/-- A store into a block of the call's own that is no tape and was there after it. -/
theorem TapeAt.set2 {W : World} {g : Nat} {p : Addr} {x : Value} (hp : g < p.block) (h : TapeAt W g) : TapeAt (W.setCell p x) g :=
  h.same fun k hk => Below.heap_setCell _ _ _ _ (by omega)

theorem newW {a0 : Option Addr} {len0 cap0 : Nat} {z0 : List Int} {w : World} (w0 : IsRow .i64 w a0 len0 cap0 z0) :
    Calls Tryz.prog 30 #[.slice a0 len0 cap0] w fun e w' => e = .returned (.pointer (some ⟨w.heap.size, 0, none⟩)) ∧ TapeAt w' w.heap.size ∧ Below w.heap.size w w' := new_any a0 len0 cap0 z0 w w0
theorem nextW {w : World} {g : Nat} {n : Int} (ht : TapeAt w g) (h0 : 0 < n) (h1 : n ≤ 1000000) :
    Calls Tryz.prog 40 #[.pointer (some ⟨g, 0, none⟩), .int .i64 n] w fun e w' => ∃ v : Int, e = .returned (.int .i64 v) ∧ 0 ≤ v ∧ v < n ∧ TapeAt w' g ∧ w.grownBy w' (some g) := by
  obtain ⟨d, rfl⟩ := Int.eq_ofNat_of_zero_le (Int.le_of_lt h0)
  refine (next_any w g d (by omega) (by omega) ht).mono ?_
  rintro e w' ⟨v, hv, rfl, ht', hg⟩
  exact ⟨v, rfl, by omega, by omega, ht', hg⟩
/-- A number is returned that need not be in normal form. -/
def RetR (w : World) (n k : Nat) (e : Ending) (w' : World) : Prop := ∃ a l c, e = .returned (.slice a l c) ∧ Rr w' (.slice a l c) n k ∧ Below w.heap.size w w'
theorem natsW {w : World} {u : Value} {m km : Nat} {k : Int} (hu : Nn w u m km) (hk : km ≤ 900000) (h0 : 0 ≤ k) (h1 : k ≤ 1000000) :
    Calls Tryz.prog 123 #[u, .int .i64 k] w (RetR w m (km + 2)) := by
  obtain ⟨k, rfl⟩ := Int.eq_ofNat_of_zero_le h0
  obtain ⟨h, hl⟩ := hu
  refine (nats_any w u _ k (by omega) h (by omega)).mono ?_
  rintro e w' ⟨z, rfl, ho, hb⟩
  have hr : Rr w' z m (km + 2) := ⟨_, ho.rd, by rw [val_zeros, val_nf], by simp; omega⟩
  obtain ⟨a, l, c, rfl⟩ := hr.shape
  exact ⟨_, _, _, rfl, hr, hb⟩
theorem nats0W {w : World} {u : Value} {m km : Nat} (hu : Nn w u m km) (hk : km ≤ 900000) : Calls Tryz.prog 123 #[u, .int .i64 0] w (RetN w m km) := by
  obtain ⟨h, hl⟩ := hu
  refine (nats_any w u _ 0 (by omega) h (by omega)).mono ?_
  rintro e w' ⟨z, rfl, ho, hb⟩
  rw [show nf m ++ List.replicate (0 % 3) 0 = nf m from List.append_nil _] at ho
  exact .mk (.of_own ho hl) hb
/-- Two numbers that are equal read the same. -/
theorem sameNT {w : World} {u v : Value} {m n km kn : Nat} (hu : Nn w u m km) (hv : Nn w v n kn) (h : m = n) : Calls Tryz.prog 131 #[u, v] w fun e w' => e = .returned (.bool true) ∧ Below w.heap.size w w' := by
  have := sameNW hu hv
  rw [decide_eq_true h] at this
  exact this
theorem isRoot_sq (a : Nat) : IsRoot (a * a) a := ⟨Nat.le_refl _, by rw [Nat.mul_add, Nat.add_mul]; omega⟩
theorem isRoot_sq2 (a : Nat) : IsRoot (a * a + (a + a)) a := ⟨by omega, by rw [Nat.mul_add, Nat.add_mul]; omega⟩
theorem blw_tp2 {w a b : World} {g : Nat} (hg : a.grownBy b (some g)) (hgw : w.heap.size ≤ g) (h : Below w.heap.size w a) : Below w.heap.size w b := blw_tp h hg hgw
end Go.Proofs.YtlameeijogdckaaGreat
