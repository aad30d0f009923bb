/-
  Contracts of the functions that only read digits: trim, Cmp and their like. Each returns what is specified and leaves the memory as it was.
-/
import Derived.Test.YtlameeijogdckaaGreatBase
import Derived.Deep.QuietTactic
import Derived.BigQuiet
namespace Go.Proofs.YtlameeijogdckaaGreat
open Go.RowKit

theorem i32_eq_zero {d : Nat} (h : d = 0) : (((d : Nat) : Int) == 0) = true := by simp [h]
theorem i32_ne_zero {d : Nat} (h : ¬ d = 0) : (((d : Nat) : Int) == 0) = false := by simpa using h

/-- trim returns the slice of the digits without the zeros at the end, in the same memory. -/
theorem trim_raw (w : World) (a : Option Addr) (cap : Nat) (l : List Nat) (hc : l.length ≤ cap) (hcm : cap ≤ 9223372036854775807) (hd : Dig l) (hr : Cells w a l) :
    Calls Tryz.prog 227 #[.slice a l.length cap] w fun e w' => e = .returned (.slice a (nf (val l)).length cap) ∧ w = w' := by
  go_enter Tryz.func227, Tryz.ntmps227
  go_wp2
  go_loop [0] (fun v => ∃ k : Nat, k ≤ l.length ∧ v = .slice a k cap ∧ Hid (val (l.take k) = val l)) (fun v => lenOf v)
  case atStart => exact ⟨l.length, Nat.le_refl _, rfl, by show _ = _; rw [List.take_length]⟩
  case round =>
    obtain ⟨k, hk, rfl, hv⟩ := hrel
    by_cases h0 : k = 0
    · subst h0
      have e := nf_take hd hk hv.out (.inl rfl)
      have e2 : (nf (val l)).length = 0 := by rw [e]; simp
      have E2 := Lib.hid e2
      clear e e2
      go_wp2
      go_ret
      exact ⟨by rw [E2.out]; rfl, rfl⟩
    · obtain ⟨b, off, rfl, hcell⟩ := hr (by omega)
      have h1 : 0 < k := by omega
      have hc1 := hcell (k - 1) (by omega)
      clear hcell
      by_cases hz : l.getD (k - 1) 0 = 0
      · have hv2 : val (l.take (k - 1)) = val l := by
          have := val_take_snoc l (k - 1) (by omega)
          rw [Nat.sub_add_cancel h1, hz, Nat.mul_zero, Nat.add_zero, hv.out] at this
          exact this.symm
        have HV := Lib.hid hv2
        generalize l.getD (k - 1) 0 = d at *
        have hz' := i32_eq_zero hz
        clear hz hv hv2
        go_wp2
        go_round
        case rel => exact ⟨k - 1, by omega, by go_num, HV⟩
        case measure => show k - 1 < k; omega
      · have e := nf_take hd hk hv.out (.inr hz)
        have e2 : (nf (val l)).length = k := by rw [e, List.length_take]; omega
        have E2 := Lib.hid e2
        generalize l.getD (k - 1) 0 = d at *
        have hz' := i32_ne_zero hz
        clear e e2 hz hv
        go_wp2
        go_ret
        exact ⟨by rw [E2.out]; rfl, rfl⟩

theorem trim_any (w : World) (v : Value) (l : List Nat) (h : Rd w v l) :
    Calls Tryz.prog 227 #[v] w fun e w' => ∃ v', e = .returned v' ∧ Rd w v' (nf (val l)) ∧ w = w' := by
  obtain ⟨a, cap, rfl, hc, hcm, hd, hr⟩ := h
  refine (trim_raw w a cap l hc hcm hd hr).mono ?_
  rintro e w' ⟨rfl, rfl⟩
  have hle := nf_val_len hd
  refine ⟨_, rfl, ⟨a, cap, rfl, by omega, hcm, dig_nf _, fun h0 => ?_⟩, rfl⟩
  obtain ⟨b, off, rfl, hc⟩ := hr (by omega)
  refine ⟨b, off, rfl, fun i hi => ?_⟩
  rw [hc i (by omega), nf_prefix hd]
  rw [List.getD_eq_getElem?_getD, List.getD_eq_getElem?_getD, List.getElem?_take, if_pos hi]
theorem trim_row (w : World) (base g cap n : Nat) (l : List Nat) (h : Row w base g cap l) (hn : l.length = n) :
    Calls Tryz.prog 227 #[.slice (some ⟨g, 0, none⟩) n cap] w fun e w' => ∃ v, e = .returned v ∧ Own w base v (nf (val l)) ∧ w = w' := by
  subst hn
  have hc := h.cap
  refine (trim_raw w _ cap l hc.1 hc.2 h.dig (fun _ => ⟨g, 0, rfl, fun i hi => by rw [Nat.zero_add]; exact h.cell hi⟩)).mono ?_
  rintro e w' ⟨rfl, rfl⟩
  refine ⟨_, rfl, ?_, rfl⟩
  have := Own.take h (nf (val l)).length (nf_val_len h.dig)
  rw [← nf_prefix h.dig] at this
  exact this

end Go.Proofs.YtlameeijogdckaaGreat
