/-
  Contract of nat.Add: the sum, in new memory.
-/
import Derived.Test.YtlameeijogdckaaGreatTrim
namespace Go.Proofs.YtlameeijogdckaaGreat
open Go.RowKit

/-- The loop's arithmetic: digit k of a + b, c carried in. -/
theorem add_step {la lb L : List Nat} {c k : Nat} (hL : L.length = la.length + 1) (hz : ∀ j, k ≤ j → L.getD j 0 = 0) (hdL : Dig L) (hc : c ≤ 1) (hk : k < la.length) (hda : Dig la) (hdb : Dig lb)
    (h : val L + 4294967296 ^ k * c = val (la.take k) + val (lb.take k)) (y : Nat) (hy : (k < lb.length ∧ y = lb.getD k 0) ∨ (lb.length ≤ k ∧ y = 0)) :
    let t := c + la.getD k 0 + y
    Dig (L.set k (t % 4294967296)) ∧ t / 4294967296 ≤ 1 ∧ (∀ j, k + 1 ≤ j → (L.set k (t % 4294967296)).getD j 0 = 0) ∧
      val (L.set k (t % 4294967296)) + 4294967296 ^ (k + 1) * (t / 4294967296) = val (la.take (k + 1)) + val (lb.take (k + 1)) := by
  intro t
  have h1 := dig_get hda k
  have hy2 : y < 4294967296 := by
    rcases hy with ⟨_, rfl⟩ | ⟨_, rfl⟩
    · exact dig_get hdb k
    · omega
  have hb : val (lb.take (k + 1)) = val (lb.take k) + 4294967296 ^ k * y := by
    rcases hy with ⟨hy, rfl⟩ | ⟨hy, rfl⟩
    · exact val_take_snoc lb k hy
    · rw [List.take_of_length_le (by omega), List.take_of_length_le hy]; simp
  have h2 := carry_round (L := L) (j := k) (c := c) (s := la.getD k 0 + y) (t := t) (by omega) (by rw [hz k (Nat.le_refl _)]; omega)
  refine ⟨dig_set hdL k (by omega), by omega, fun j hj => ?_, ?_⟩
  · rw [set_getD_ne _ _ _ _ (by omega)]; exact hz j (by omega)
  · rw [h2, hb, val_take_snoc la k hk, Nat.mul_add, h]; omega
theorem add_end {la lb L : List Nat} {c : Nat} (hL : L.length = la.length + 1) (hz : ∀ j, la.length ≤ j → L.getD j 0 = 0) (hlen : lb.length ≤ la.length)
    (h : val L + 4294967296 ^ la.length * c = val (la.take la.length) + val (lb.take la.length)) : val (L.set la.length c) = val la + val lb := by
  rw [last_carry (by omega) (hz _ (Nat.le_refl _)), h, List.take_length, List.take_of_length_le hlen]

set_option maxRecDepth 100000 in
set_option maxHeartbeats 1000000 in
theorem add_both (w : World) (a b : Option Addr) (capa capb : Nat) (la lb : List Nat) (args : Array Value) (hlen : lb.length ≤ la.length)
    (hargs : args = #[.slice a la.length capa, .slice b lb.length capb] ∨ (args = #[.slice b lb.length capb, .slice a la.length capa] ∧ lb.length < la.length)) (hla : la.length ≤ 1000000)
    (hda : Dig la) (hdb : Dig lb) (hra : Cells w a la) (hrb : Cells w b lb) :
    Calls Tryz.prog 237 args w fun e w' => ∃ v, e = .returned v ∧ Own w' w.heap.size v (nf (val la + val lb)) ∧ Below w.heap.size w w' := by
  rcases hargs with rfl | ⟨rfl, hlt⟩
  all_goals
    go_enter Tryz.func237, Tryz.ntmps237
    go_wp2_with (at_make; go_loud (refine make_u32 _ rfl (.tmp 18) (.tmp 18) 23 rfl Tryz.underlying23 _ _ (la.length + 1) rfl rfl (by omega) (by omega) (by omega) ?_); intro w1 R0 B0)
    go_loopw [6, 22] (fun c i wr => ∃ (k cn : Nat) (L : List Nat), k ≤ la.length ∧ i = .int .i64 k ∧ c = .int .u64 cn ∧ cn ≤ 1 ∧ Row wr w.heap.size w.heap.size (la.length + 1) L ∧ Hid (L.length = la.length + 1) ∧ Below w.heap.size w wr ∧
        Hid (∀ j, k ≤ j → L.getD j 0 = 0) ∧ Hid (val L + 4294967296 ^ k * cn = val (la.take k) + val (lb.take k))) (fun _ i _ => la.length - (intOf i).toNat)
    case atStart => exact ⟨0, 0, _, Nat.zero_le _, rfl, rfl, by omega, R0, by show _ = _; simp, B0, fun j _ => getD_replicate _ _, by show _ = _; simp [val_replicate, val_nil]⟩
    case round =>
      obtain ⟨k, cn, L, hk, rfl, rfl, hcn, hR, hL, hB, hz, hv⟩ := hrel
      have hRc := hR.cap
      have hRl := hR.lt
      by_cases hlt : k < la.length
      · obtain ⟨ba, offa, rfl, cA⟩ := hra.at hB hlt
        have hst := @add_step la lb L cn k hL.out hz.out hR.dig hcn hlt hda hdb hv.out
        have cR := hR.cell (j := k) (by rw [hL.out]; omega)
        have fR := hR.free k
        have hx := dig_get hda k
        generalize la.getD k 0 = x at *
        generalize L.getD k 0 = z at *
        by_cases hltb : k < lb.length
        · obtain ⟨bb, offb, rfl, cB⟩ := hrb.at hB hltb
          have hst2 := hst (lb.getD k 0) (.inl ⟨hltb, rfl⟩)
          have hy := dig_get hdb k
          generalize lb.getD k 0 = y at *
          have e1 : ((cn : Int) + (x : Int) + (y : Int)) % 4294967296 = (((cn + x + y) % 4294967296 : Nat) : Int) := by omega
          have HST := Lib.hid hst2
          have HE := Lib.hid e1
          clear hst hst2 hra hrb e1
          go_wp2
          go_roundw
          case rel =>
            obtain ⟨s1, s2, s3, s4⟩ := HST.out
            rw [HE.out]
            exact ⟨k + 1, (cn + x + y) / 4294967296, L.set k ((cn + x + y) % 4294967296), by omega, rfl, by go_num, s2, hR.set k (by omega), by show _ = _; rw [List.length_set]; exact hL.out, hB.setCell (Nat.le_refl _) _, s3, s4⟩
          case measure => simp [intOf]; omega
        · have hst2 := hst 0 (.inr ⟨by omega, rfl⟩)
          have e1 : ((cn : Int) + (x : Int)) % 4294967296 = (((cn + x + 0) % 4294967296 : Nat) : Int) := by omega
          have HST := Lib.hid hst2
          have HE := Lib.hid e1
          clear hst hst2 hra hrb e1
          go_wp2
          go_roundw
          case rel =>
            obtain ⟨s1, s2, s3, s4⟩ := HST.out
            rw [HE.out]
            exact ⟨k + 1, (cn + x + 0) / 4294967296, L.set k ((cn + x + 0) % 4294967296), by omega, rfl, by go_num, s2, hR.set k (by omega), by show _ = _; rw [List.length_set]; exact hL.out, hB.setCell (Nat.le_refl _) _, s3, s4⟩
          case measure => simp [intOf]; omega
      · obtain rfl : k = la.length := by omega
        have hend := add_end hL.out hz.out hlen hv.out
        have cR := hR.cell (j := la.length) (by rw [hL.out]; omega)
        have fR := hR.free la.length
        generalize L.getD la.length 0 = z at *
        have HV := Lib.hid hend
        have HR2 := hR.set la.length (d := cn) (by omega)
        clear hend hra hrb
        go_wp2_with (go_at_call 227; refine (trim_row _ _ _ _ _ _ HR2 (by rw [List.length_set]; exact hL.out)).mono ?_; rintro e w2 ⟨v, rfl, ho, rfl⟩)
        go_ret
        rw [HV.out] at ho
        exact ⟨v, rfl, ho, hB.setCell (Nat.le_refl _) _⟩

theorem add_raw (w : World) (a b : Option Addr) (capa capb : Nat) (la lb : List Nat) (hla : la.length ≤ 1000000) (hlb : lb.length ≤ 1000000)
    (hda : Dig la) (hdb : Dig lb) (hra : Cells w a la) (hrb : Cells w b lb) :
    Calls Tryz.prog 237 #[.slice a la.length capa, .slice b lb.length capb] w fun e w' => ∃ v, e = .returned v ∧ Own w' w.heap.size v (nf (val la + val lb)) ∧ Below w.heap.size w w' := by
  by_cases hlt : la.length < lb.length
  · rw [Nat.add_comm]
    exact add_both w b a capb capa lb la _ (by omega) (.inr ⟨rfl, hlt⟩) hlb hdb hda hrb hra
  · exact add_both w a b capa capb la lb _ (by omega) (.inl rfl) hla hda hdb hra hrb

theorem add_any (w : World) (u v : Value) (la lb : List Nat) (hu : Rd w u la) (hv : Rd w v lb) (hla : la.length ≤ 1000000) (hlb : lb.length ≤ 1000000) :
    Calls Tryz.prog 237 #[u, v] w fun e w' => ∃ z, e = .returned z ∧ Own w' w.heap.size z (nf (val la + val lb)) ∧ Below w.heap.size w w' := by
  obtain ⟨a, capa, rfl, _, _, hda, hra⟩ := hu
  obtain ⟨b, capb, rfl, _, _, hdb, hrb⟩ := hv
  exact add_raw w a b capa capb la lb hla hlb hda hdb hra hrb

end Go.Proofs.YtlameeijogdckaaGreat
