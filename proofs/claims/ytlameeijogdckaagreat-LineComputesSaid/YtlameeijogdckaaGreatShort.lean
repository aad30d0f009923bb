/-
  Contract of nat.short: division by one digit.
-/
import Derived.Test.YtlameeijogdckaaGreatForms
namespace Go.Proofs.YtlameeijogdckaaGreat
open Go.RowKit

theorem short_step {la L : List Nat} {d r x j : Nat} (hj : j < la.length) (hL : L.length = la.length) (hx : la.getD j 0 = x) (hd : 0 < d) (hr : r < d) (hdL : Dig L) (hda : Dig la)
    (hz : ∀ i, i < j + 1 → L.getD i 0 = 0) (h : 4294967296 ^ (j + 1) * val (la.drop (j + 1)) = val L * d + 4294967296 ^ (j + 1) * r) :
    (x + 4294967296 * r) / d < 4294967296 ∧ (x + 4294967296 * r) % d < d ∧ Dig (L.set j ((x + 4294967296 * r) / d)) ∧ (∀ i, i < j → (L.set j ((x + 4294967296 * r) / d)).getD i 0 = 0) ∧
      4294967296 ^ j * val (la.drop j) = val (L.set j ((x + 4294967296 * r) / d)) * d + 4294967296 ^ j * ((x + 4294967296 * r) % d) := by
  have hx2 := dig_get hda j
  rw [hx] at hx2
  have hq : (r * 4294967296 + x) / d < 4294967296 := short_digit hr hx2
  have e : r * 4294967296 + x = x + 4294967296 * r := by omega
  have h1 := short_round (L := L) (A := 4294967296 ^ (j + 1) * val (la.drop (j + 1))) (r := r) (x := x) (d := d) (j := j) (by omega) (hz j (by omega)) h
  rw [e] at hq h1
  refine ⟨hq, Nat.mod_lt _ hd, dig_set hdL _ hq, fun i hi => by rw [set_getD_ne _ _ _ _ (by omega)]; exact hz i (by omega), ?_⟩
  rw [val_drop_cons la j hj, hx, ← h1, Nat.mul_add, Nat.pow_succ, Nat.mul_assoc]
  omega
theorem short_end {la L : List Nat} {d r : Nat} (hr : r < d) (h : 4294967296 ^ 0 * val (la.drop 0) = val L * d + 4294967296 ^ 0 * r) : val L = val la / d ∧ r = val la % d := by
  rw [Nat.pow_zero, Nat.one_mul, Nat.one_mul, List.drop_zero] at h
  rw [h]
  constructor
  · rw [Nat.mul_comm, Nat.mul_add_div (by omega), Nat.div_eq_of_lt hr]; rfl
  · rw [Nat.mul_comm, Nat.mul_add_mod, Nat.mod_eq_of_lt hr]

/-- What short returns. -/
def ShortPost (w : World) (m d : Nat) (e : Ending) (w' : World) : Prop :=
  ∃ z, e = .returned (.tuple #[z, .int .u32 ((m % d : Nat) : Int)]) ∧ Own w' w.heap.size z (nf (m / d)) ∧ Below w.heap.size w w'
set_option maxRecDepth 100000 in
set_option maxHeartbeats 1000000 in
theorem short_any (w : World) (u : Value) (la : List Nat) (d : Nat) (hu : Rd w u la) (hla : la.length ≤ 1000000) (hd : 0 < d) (hdl : d < 4294967296) :
    Calls Tryz.prog 230 #[u, .int .u32 (d : Int)] w (ShortPost w (val la) d) := by
  obtain ⟨a, capa, rfl, _, _, hda, hra⟩ := hu
  go_enter Tryz.func230, Tryz.ntmps230
  go_wp2_with (at_make; go_loud (refine make_u32 _ rfl (.tmp 11) (.tmp 11) 23 rfl Tryz.underlying23 _ _ la.length rfl rfl (by omega) (by omega) (by omega) ?_); intro w1 R0 B0)
  go_loopw [7, 8] (fun c i wr => ∃ (k r : Nat) (L : List Nat), k ≤ la.length ∧ i = .int .i64 ((k : Int) - 1) ∧ c = .int .u64 r ∧ r < d ∧ Row wr w.heap.size w.heap.size la.length L ∧ Hid (L.length = la.length) ∧ Below w.heap.size w wr ∧
      Hid (∀ j, j < k → L.getD j 0 = 0) ∧ Hid (4294967296 ^ k * val (la.drop k) = val L * d + 4294967296 ^ k * r)) (fun _ i _ => (intOf i + 1).toNat)
  case atStart => exact ⟨la.length, 0, _, Nat.le_refl _, rfl, rfl, hd, R0, by show _ = _; simp, B0, fun j _ => getD_replicate _ _, by show _ = _; simp [val_replicate, val_nil]⟩
  case round =>
    obtain ⟨k, r, L, hk, rfl, rfl, hr, hR, hL, hB, hz, hv⟩ := hrel
    have hRl := hR.lt
    have hRc := hR.cap
    by_cases hk1 : 1 ≤ k
    · obtain ⟨j, rfl⟩ : ∃ j, k = j + 1 := ⟨k - 1, by omega⟩
      obtain ⟨ba, offa, rfl, cA⟩ := hra.at hB (k := j) (by omega)
      have hx := dig_get hda j
      have hst := fun x hx => @short_step la L d r x j (by omega) hL.out hx hd hr hR.dig hda hz.out hv.out
      have hst := hst _ rfl
      generalize la.getD j 0 = x at *
      have cR := hR.cell (j := j) (by rw [hL.out]; omega)
      have fR := hR.free j
      generalize L.getD j 0 = z at *
      have hor := high_or x r hx (by omega)
      have b0 : (0 : Int) ≤ (j : Int) := by omega
      have b1 : (j : Int) < (la.length : Int) := by omega
      have e1 : ((x : Int) + 4294967296 * (r : Int)) / (d : Int) = (((x + 4294967296 * r) / d : Nat) : Int) := by rw [Int.natCast_ediv, Int.natCast_add, Int.natCast_mul]; rfl
      have e2 : ((x : Int) + 4294967296 * (r : Int)) % (d : Int) = (((x + 4294967296 * r) % d : Nat) : Int) := by rw [Int.natCast_emod, Int.natCast_add, Int.natCast_mul]; rfl
      have q1 : ((x : Int) + 4294967296 * (r : Int)) / (d : Int) < 4294967296 := by rw [e1]; have := hst.1; omega
      have q2 : (0 : Int) ≤ ((x : Int) + 4294967296 * (r : Int)) / (d : Int) := by rw [e1]; exact Int.natCast_nonneg _
      have q3 : (0 : Int) ≤ ((x : Int) + 4294967296 * (r : Int)) % (d : Int) := by rw [e2]; exact Int.natCast_nonneg _
      have q4 : ((x : Int) + 4294967296 * (r : Int)) % (d : Int) < (d : Int) := by rw [e2]; have := hst.2.1; omega
      have E1 := Lib.hid e1
      have E2 := Lib.hid e2
      clear e1 e2
      have HST := Lib.hid hst
      clear hst hra
      go_wp2
      go_roundw
      case rel =>
        obtain ⟨s1, s2, s3, s4, s5⟩ := HST.out
        rw [E1.out, E2.out]
        exact ⟨j, (x + 4294967296 * r) % d, _, by omega, by go_num, rfl, s2, hR.set j s1, by show _ = _; rw [List.length_set]; exact hL.out, hB.setCell (Nat.le_refl _) _, s4, s5⟩
      case measure => simp [intOf]
    · obtain rfl : k = 0 := by omega
      have hst := short_end hr hv.out
      have HST := Lib.hid hst
      clear hst hra
      go_wp2_with (go_at_call 227; refine (trim_row _ _ _ _ _ _ hR hL.out).mono ?_; rintro e w2 ⟨v, rfl, ho, rfl⟩)
      go_ret2
      obtain ⟨s1, s2⟩ := HST.out
      rw [s1] at ho
      refine ⟨v, ?_, ho, hB⟩
      rw [← s2]
      rfl
end Go.Proofs.YtlameeijogdckaaGreat
