/-
  Contracts of nat.less, nat.Sub and num.Less: the difference, in new memory.
-/
import Derived.Test.YtlameeijogdckaaGreatBits
namespace Go.Proofs.YtlameeijogdckaaGreat
open Go.RowKit

/-- The loop's arithmetic: digit k of a - b, borrow c. -/
theorem sub_step {la lb L : List Nat} {c k d c' x y : Nat} (hL : L.length = la.length) (hz : ∀ j, k ≤ j → L.getD j 0 = 0) (hk : k < la.length) (hx : la.getD k 0 = x)
    (h : val L + val (lb.take k) = val (la.take k) + 4294967296 ^ k * c) (hy : (k < lb.length ∧ lb.getD k 0 = y) ∨ (lb.length ≤ k ∧ y = 0)) (hd : d + y + c = x + 4294967296 * c') :
    (∀ j, k + 1 ≤ j → (L.set k d).getD j 0 = 0) ∧ val (L.set k d) + val (lb.take (k + 1)) = val (la.take (k + 1)) + 4294967296 ^ (k + 1) * c' := by
  have hb : val (lb.take (k + 1)) = val (lb.take k) + 4294967296 ^ k * y := by
    rcases hy with ⟨hy, rfl⟩ | ⟨hy, rfl⟩
    · exact val_take_snoc lb k hy
    · rw [List.take_of_length_le (by omega), List.take_of_length_le hy]; simp
  have h2 := borrow_round (L := L) (A := val (la.take k)) (C := val (lb.take k)) (j := k) (c := c) (c' := c') (d := d) (x := x) (y := y) (by omega) (hz k (Nat.le_refl _)) h hd
  refine ⟨fun j hj => ?_, ?_⟩
  · rw [set_getD_ne _ _ _ _ (by omega)]; exact hz j (by omega)
  · rw [hb, val_take_snoc la k hk, hx, h2]
theorem sub_end {la lb L : List Nat} {c : Nat} (hdL : Dig L) (hL : L.length = la.length) (hlen : lb.length ≤ la.length) (hle : val lb ≤ val la)
    (h : val L + val (lb.take la.length) = val (la.take la.length) + 4294967296 ^ la.length * c) : val L = val la - val lb := by
  rw [List.take_length, List.take_of_length_le hlen] at h
  have h1 := val_lt L hdL
  rw [hL] at h1
  rcases Nat.eq_zero_or_pos c with h0 | h0
  · subst h0; omega
  · exfalso
    have : 4294967296 ^ la.length * 1 ≤ 4294967296 ^ la.length * c := Nat.mul_le_mul_left _ h0
    omega

theorem wrap_neg (z : Int) (h1 : -18446744073709551616 ≤ z) (h2 : z < 0) : IntKind.u64.wrap z = z + 18446744073709551616 := by
  rw [IntKind.wrap_u64]; omega

set_option maxRecDepth 100000 in
set_option maxHeartbeats 1000000 in
theorem less_raw (w : World) (a b : Option Addr) (capa capb : Nat) (la lb : List Nat) (hlen : lb.length ≤ la.length) (hle : val lb ≤ val la) (hla : la.length ≤ 1000000)
    (hda : Dig la) (hdb : Dig lb) (hra : Cells w a la) (hrb : Cells w b lb) :
    Calls Tryz.prog 242 #[.slice a la.length capa, .slice b lb.length capb] w fun e w' => ∃ v, e = .returned v ∧ Own w' w.heap.size v (nf (val la - val lb)) ∧ Below w.heap.size w w' := by
  have HLE := Lib.hid hle
  clear hle
  go_enter Tryz.func242, Tryz.ntmps242
  go_wp2_with (at_make; go_loud (refine make_u32 _ rfl (.tmp 12) (.tmp 12) 23 rfl Tryz.underlying23 _ _ la.length rfl rfl (by omega) (by omega) (by omega) ?_); intro w1 R0 B0)
  go_loopw [6, 16] (fun c i wr => ∃ (k cn : Nat) (L : List Nat), k ≤ la.length ∧ i = .int .i64 k ∧ c = .int .u64 cn ∧ cn ≤ 1 ∧ Row wr w.heap.size w.heap.size la.length L ∧ Hid (L.length = la.length) ∧ Below w.heap.size w wr ∧
      Hid (∀ j, k ≤ j → L.getD j 0 = 0) ∧ Hid (val L + val (lb.take k) = val (la.take k) + 4294967296 ^ k * cn)) (fun _ i _ => la.length - (intOf i).toNat)
  case atStart => exact ⟨0, 0, _, Nat.zero_le _, rfl, rfl, by omega, R0, by show _ = _; simp, B0, fun j _ => getD_replicate _ _, by show _ = _; simp [val_replicate, val_nil]⟩
  case round =>
    obtain ⟨k, cn, L, hk, rfl, rfl, hcn, hR, hL, hB, hz, hv⟩ := hrel
    have hRc := hR.cap
    have hRl := hR.lt
    by_cases hlt : k < la.length
    · obtain ⟨ba, offa, rfl, cA⟩ := hra.at hB hlt
      have hst := fun x y d c' => @sub_step la lb L cn k d c' x y hL.out hz.out hlt
      have cR := hR.cell (j := k) (by rw [hL.out]; omega)
      have fR := hR.free k
      have hx := dig_get hda k
      generalize hgx : la.getD k 0 = x at *
      have hst := fun y d c' => hst x y d c' rfl hv.out
      clear hgx
      generalize L.getD k 0 = z at *
      by_cases hltb : k < lb.length
      · obtain ⟨bb, offb, rfl, cB⟩ := hrb.at hB hltb
        have hy := dig_get hdb k
        generalize hgy : lb.getD k 0 = y at *
        have hst := fun d c' => hst y d c' (.inl ⟨hltb, rfl⟩)
        clear hgy
        by_cases hge : cn + y ≤ x
        · have HST := Lib.hid (hst (x - y - cn) 0 (by omega))
          clear hst hra hrb
          go_wp2
          go_roundw
          case rel =>
            obtain ⟨s1, s2⟩ := HST.out
            rw [show ((x : Int) - ((cn : Int) + (y : Int))) = ((x - y - cn : Nat) : Int) by omega]
            exact ⟨k + 1, 0, _, by omega, by go_num, by go_num, by omega, hR.set k (by omega), by show _ = _; rw [List.length_set]; exact hL.out, hB.setCell (Nat.le_refl _) _, s1, s2⟩
          case measure => simp [intOf]; omega
        · have HST := Lib.hid (hst (x + 4294967296 - y - cn) 1 (by omega))
          clear hst hra hrb
          go_wp2
          go_roundw
          case rel =>
            obtain ⟨s1, s2⟩ := HST.out
            rw [wrap_neg _ (by omega) (by omega), show (((x : Int) - ((cn : Int) + (y : Int))) + 18446744073709551616) % 4294967296 = ((x + 4294967296 - y - cn : Nat) : Int) by omega]
            exact ⟨k + 1, 1, _, by omega, by go_num, by go_num, by omega, hR.set k (by omega), by show _ = _; rw [List.length_set]; exact hL.out, hB.setCell (Nat.le_refl _) _, s1, s2⟩
          case measure => simp [intOf]; omega
      · have hst := fun d c' => hst 0 d c' (.inr ⟨by omega, rfl⟩)
        by_cases hge : cn ≤ x
        · have HST := Lib.hid (hst (x - 0 - cn) 0 (by omega))
          clear hst hra hrb
          go_wp2
          go_roundw
          case rel =>
            obtain ⟨s1, s2⟩ := HST.out
            rw [show ((x : Int) - (cn : Int)) = ((x - 0 - cn : Nat) : Int) by omega]
            exact ⟨k + 1, 0, _, by omega, by go_num, by go_num, by omega, hR.set k (by omega), by show _ = _; rw [List.length_set]; exact hL.out, hB.setCell (Nat.le_refl _) _, s1, s2⟩
          case measure => simp [intOf]; omega
        · have HST := Lib.hid (hst (x + 4294967296 - 0 - cn) 1 (by omega))
          clear hst hra hrb
          go_wp2
          go_roundw
          case rel =>
            obtain ⟨s1, s2⟩ := HST.out
            rw [wrap_neg _ (by omega) (by omega), show (((x : Int) - (cn : Int)) + 18446744073709551616) % 4294967296 = ((x + 4294967296 - 0 - cn : Nat) : Int) by omega]
            exact ⟨k + 1, 1, _, by omega, by go_num, by go_num, by omega, hR.set k (by omega), by show _ = _; rw [List.length_set]; exact hL.out, hB.setCell (Nat.le_refl _) _, s1, s2⟩
          case measure => simp [intOf]; omega
    · have hkl : k = la.length := by omega
      subst hkl
      have HV := Lib.hid (sub_end hR.dig hL.out hlen HLE.out hv.out)
      clear hra hrb
      go_wp2_with (go_at_call 227; refine (trim_row _ _ _ _ _ _ hR hL.out).mono ?_; rintro e w2 ⟨v, rfl, ho, rfl⟩)
      go_ret
      rw [HV.out] at ho
      exact ⟨v, rfl, ho, hB⟩

/-- What Sub returns. -/
def SubPost (w : World) (m n : Nat) (e : Ending) (w' : World) : Prop :=
  ∃ z, e = .returned (.tuple #[z, .bool (decide (n ≤ m))]) ∧ Own w' w.heap.size z (nf (m - n)) ∧ Below w.heap.size w w'
set_option maxRecDepth 100000 in
theorem sub_any (w : World) (u v : Value) (la lb : List Nat) (hu : Rd w u la) (hv : Rd w v lb) (hla : la.length ≤ 1000000) :
    Calls Tryz.prog 238 #[u, v] w (SubPost w (val la) (val lb)) := by
  have hle := nf_val_len hu.dig
  go_enter Tryz.func238, Tryz.ntmps238
  go_wp2_with fail
  refine (natCmp_any _ _ _ _ _ hu hv).mono ?_
  rintro e w1 ⟨rfl, hb1⟩
  by_cases hlt : val la < val lb
  · rw [cmpN_lt hlt]
    have HD := Lib.hid (decide_eq_false (show ¬ val lb ≤ val la by omega))
    have HZ := Lib.hid (show val la - val lb = 0 by omega)
    clear hlt
    go_wp2
    go_ret2
    exact ⟨_, by rw [HD.out]; rfl, by rw [HZ.out]; exact Own.nil _ _, hb1⟩
  · have hge : 0 ≤ cmpN (val la) (val lb) := by unfold cmpN; rw [if_neg hlt]; split <;> omega
    have HD := Lib.hid (decide_eq_true (show val lb ≤ val la by omega))
    generalize cmpN (val la) (val lb) = c at *
    go_wp2_with fail
    refine (trim_any _ _ _ (hu.keep hb1)).mono ?_
    rintro e w2 ⟨u', rfl, hu', rfl⟩
    go_wp2_with fail
    refine (trim_any _ _ _ (hv.keep hb1)).mono ?_
    rintro e w2 ⟨v', rfl, hv', rfl⟩
    go_wp2_with fail
    obtain ⟨a, capa, rfl, _, _, hda, hra⟩ := hu'
    obtain ⟨b, capb, rfl, _, _, hdb, hrb⟩ := hv'
    refine (less_raw w1 a b capa capb _ _ (nf_len_mono (by omega)) (by rw [val_nf, val_nf]; omega) (by omega) hda hdb hra hrb).mono ?_
    rintro e w3 ⟨z, rfl, hz, hb3⟩
    rw [val_nf, val_nf] at hz
    go_wp2
    go_ret2
    exact ⟨_, by rw [HD.out]; rfl, hz.mono hb1.size, hb1.trans (hb3.mono hb1.size)⟩
end Go.Proofs.YtlameeijogdckaaGreat
