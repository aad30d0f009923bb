/-
  Texts of naturals and integers.
  Printed by a small program (mkfmt.py).
-/
import Derived.Test.YtlameeijogdckaaGreatCon
import Derived.Test.YtlameeijogdckaaGreatFormat
namespace Go.Proofs.YtlameeijogdckaaGreat
open Go.RowKit

/-- What an integer is written as. -/
def decI (x : Int) : ByteArray := if x < 0 then ⟨#[45]⟩ ++ decStr x.natAbs else decStr x.natAbs
theorem decStr_size (m : Nat) : (decStr m).size ≤ 1 + (dl m).length := by
  show (((decBytes m).map UInt8.ofNat).toArray).size ≤ _
  simp only [List.size_toArray, List.length_map]
  unfold decBytes
  split <;> simp
theorem natFormatC {w : World} {a1 : Option Addr} {l1 c1 m k1 : Nat} [h1 : CR w (.slice a1 l1 c1) m k1] (b : k1 ≤ 900000 ∧ (dl m).length ≤ 100000000) :
    Calls Tryz.prog 226 #[.slice a1 l1 c1] w fun e w' => e = .returned (.string (decStr m)) ∧ Below w.heap.size w w' := by
  obtain ⟨l, h, rfl, hl⟩ := h1.out
  exact format_any w _ l h (by omega) b.2
set_option maxRecDepth 100000 in
set_option maxHeartbeats 4000000 in
set_option synthInstance.maxSize 100000 in
set_option synthInstance.maxHeartbeats 1000000 in
theorem intFormatC {w : World} {g1 : Bool} {a1 : Option Addr} {l1 c1 : Nat} {x : Int} {k1 : Nat} [h1 : CI w (.agg #[.bool g1, .slice a1 l1 c1]) x k1] (b : k1 ≤ 900000 ∧ (dl x.natAbs).length ≤ 100000000) :
    Calls Tryz.prog 224 #[.agg #[.bool g1, .slice a1 l1 c1]] w fun e w' => e = .returned (.string (decI x)) ∧ Below w.heap.size w w' := by
  obtain ⟨m, hz, hx⟩ := zi_of h1
  have i1 : CR w (.slice a1 l1 c1) m k1 := ⟨hz⟩
  have hm : x.natAbs = m := by rw [hx, sgn_abs]
  clear hz hx
  subst hm
  by_cases hx : x < 0
  · have hs : isgn x = -1 := by unfold isgn; rw [if_pos hx]
    have HD : Hid (decI x = ⟨#[45]⟩ ++ decStr x.natAbs) := if_pos hx
    have hsz0 := decStr_size x.natAbs
    have hsz : (9223372036854775807 < 1 + (decStr x.natAbs).size) ↔ False := ⟨fun h => by omega, False.elim⟩
    clear hx hsz0
    go_enter Tryz.func224, Tryz.ntmps224
    go_wp2_with (first
    | (go_at_call 226; (with_reducible refine Calls.cE (natFormatC (by omega)) ?_); intros)
    | (go_at_call 203; (with_reducible refine Calls.cE (intSignC (by omega)) ?_); intros))
    go_ret
    exact E.fin (by rw [HD.out]; rfl)
  · have hs : isgn x < 0 ↔ False := by unfold isgn; rw [if_neg hx]; split <;> simp
    have HD : Hid (decI x = decStr x.natAbs) := if_neg hx
    clear hx
    go_enter Tryz.func224, Tryz.ntmps224
    go_wp2_with (first
    | (go_at_call 226; (with_reducible refine Calls.cE (natFormatC (by omega)) ?_); intros)
    | (go_at_call 203; (with_reducible refine Calls.cE (intSignC (by omega)) ?_); intros))
    go_ret
    exact E.fin (by rw [HD.out]; rfl)

end Go.Proofs.YtlameeijogdckaaGreat
