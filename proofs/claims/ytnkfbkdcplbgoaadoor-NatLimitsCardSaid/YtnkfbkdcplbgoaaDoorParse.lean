/-
  The walk of nat.Parse.
-/
import Derived.Test.YtnkfbkdcplbgoaaDoorParse0
namespace Go.Proofs.YtnkfbkdcplbgoaaDoor
open Go.RowKit

set_option maxRecDepth 100000 in
set_option maxHeartbeats 4000000 in
theorem parse_any {w w1 w2 : World} (s : ByteArray) {a0 a1 : Addr} [h0 : Snt w 0 a0 w1] [h1 : Snt w 1 a1 w2] (hsz : s.size ≤ 1000000000) :
    Calls Tryd.prog 10 #[.string s] w (ParsePost w s.data.toList a0 a1) := by
  have i0 := h0.here
  have i1 := h1.here
  clear h0 h1
  have hlen := str_len s
  by_cases he : s.data.toList = []
  · have hee : s.toList.isEmpty = true := by rw [Lib.toList_data, he]; rfl
    have HP : Hid (pKind s.data.toList = 1) := by show _ = _; unfold pKind; rw [if_pos (.inl he)]
    clear he hlen
    go_enter Tryd.func10, Tryd.ntmps10
    go_wp2
    go_ret2
    exact .inl ⟨HP.out, _, _, rfl, inferInstance, inferInstance, (inferInstance : Kp w _).out⟩
  · have hee : s.toList.isEmpty = false := by
      rw [Lib.toList_data]
      cases hx : s.data.toList with
      | nil => exact absurd hx he
      | cons => rfl
    have hpos : 0 < s.size := by
      rw [hlen]
      exact List.length_pos_iff.2 he
    clear he
    have HLEN := Lib.hid hlen
    clear hlen
    go_enter Tryd.func10, Tryd.ntmps10
    go_wp2_with fail
    go_loop [17] (fun i => ∃ k : Nat, k ≤ s.size ∧ i = .int .i64 k ∧ Hid (∀ b ∈ s.data.toList.take k, isD b = true)) (fun i => s.size - (intOf i).toNat)
    case atStart => exact ⟨0, Nat.zero_le _, rfl, fun b hb => by simp at hb⟩
    case round =>
      obtain ⟨k, hk, rfl, hD⟩ := hrel
      by_cases hlt : k < s.size
      · have hix := ix_str s k hlt
        by_cases hd : isD (byteAt s k) = true
        · obtain ⟨_, d1, d2⟩ := isD_bd hd
          have hD2 : Hid (∀ b ∈ s.data.toList.take (k + 1), isD b = true) := fun b hb => by
            rw [take_byte hlt] at hb
            rcases List.mem_append.1 hb with h | h
            · exact hD.out b h
            · rw [List.mem_singleton.1 h]; exact hd
          clear hd hD
          generalize byteAt s k = x at *
          go_wp2
          go_round
          case rel => exact ⟨k + 1, by omega, by go_num, hD2⟩
          case measure => simp [intOf]; omega
        · have hd : isD (byteAt s k) = false := by simpa using hd
          have HP : Hid (pKind s.data.toList = 1) := by show _ = _; unfold pKind; rw [if_pos (.inr ⟨_, byteAt_mem hlt, hd⟩)]
          have hbd := not_isD hd
          clear hd hD
          generalize byteAt s k = x at *
          rcases hbd with hbd | hbd
          all_goals
            go_wp2
            go_ret2
            exact .inl ⟨HP.out, _, _, rfl, inferInstance, inferInstance, (inferInstance : Kp w _).out⟩
      · obtain rfl : k = s.size := by omega
        have HA : Hid (∀ b ∈ s.data.toList, isD b = true) := fun b hb => hD.out b (by rw [HLEN.out, List.take_length]; exact hb)
        have hp : s.data.toList = [] ∨ (∃ b ∈ s.data.toList, isD b = false) → False := fun h => by
          rcases h with h | ⟨b, hb, h⟩
          · rw [HLEN.out, h] at hpos; exact absurd hpos (by simp)
          · rw [HA.out b hb] at h; cases h
        clear hD
        by_cases h4 : 4096 < s.size
        · have HP : Hid (pKind s.data.toList = 2) := by show _ = _; unfold pKind; rw [if_neg hp, if_pos (by rw [← HLEN.out]; exact h4)]
          clear hp
          go_wp2
          go_ret2
          exact .inr (.inl ⟨HP.out, _, _, rfl, inferInstance, inferInstance, (inferInstance : Kp w _).out⟩)
        · have HP : Hid (pKind s.data.toList = 0) := by show _ = _; unfold pKind; rw [if_neg hp, if_neg (by rw [← HLEN.out]; exact h4)]
          clear hp
          go_wp2
          go_loopw [0, 5] (fun sv ov wr => ∃ (r : ByteArray) (m : Nat), sv = .string r ∧ m ≤ s.size ∧ r.size + m = s.size ∧ Hid (r.data.toList = s.data.toList.drop m) ∧ Own wr w.heap.size ov (nf (bval (s.data.toList.take m))) ∧ Below w.heap.size w wr ∧ Hid (m = 0 ∨ r.size % 9 = 0)) (fun sv _ _ => strSize sv)
          case atStart => exact ⟨s, 0, rfl, Nat.zero_le _, by omega, by show _ = _; rw [List.drop_zero], Own.nil _ _, Below.refl _ _, .inl rfl⟩
          case round =>
            obtain ⟨r, m, rfl, hm, hrm, hr, hO, hB, h9⟩ := hrel
            obtain ⟨wo, hwo⟩ : ∃ wo : World, wo = wr := ⟨_, rfl⟩
            subst hwo
            by_cases hr0 : 0 < r.size
            · obtain ⟨q, hq⟩ : ∃ q, q = if r.size % 9 = 0 then 9 else r.size % 9 := ⟨_, rfl⟩
              have hq1 : 1 ≤ q ∧ q ≤ 9 ∧ q ≤ r.size ∧ (r.size - q) % 9 = 0 := by rw [hq]; split <;> omega
              have hq9 : Hid (m = 0 ∨ q = 9) := by
                rcases h9.out with h | h
                · exact .inl h
                · exact .inr (by rw [hq, if_pos h])
              have hrt : (r.size : Int).tmod 9 = ((r.size % 9 : Nat) : Int) := by rw [Int.tmod_eq_emod_of_nonneg (by omega)]; omega
              have hcase : ((r.size : Int).tmod 9 = 0 ∧ q = 9) ∨ ((r.size : Int).tmod 9 = (q : Int) ∧ 0 < q) := by
                rw [hrt, hq]
                split
                · left; omega
                · right; omega
              have hrl := str_len r
              have HRD : Hid (∀ k, k < r.size → isD (byteAt r k) = true) := fun k hk => HA.out _ (by
                have := byteAt_mem hk
                rw [hr.out] at this
                exact List.mem_of_mem_drop this)
              have HB : Hid (∀ k, k ≤ 9 → bval (r.data.toList.take k) < 10 ^ k) := fun k hk => by
                refine Nat.lt_of_lt_of_le (bval_lt _ (fun b hb => ?_)) (Nat.pow_le_pow_right (by omega) (by rw [List.length_take]; omega))
                have := List.mem_of_mem_take hb
                rw [hr.out] at this
                exact HA.out _ (List.mem_of_mem_drop this)
              have HT : Hid (bval (s.data.toList.take (m + q)) = bval (r.data.toList.take q) + 1000000000 * bval (s.data.toList.take m)) := by
                show _ = _
                have e : s.data.toList.take (m + q) = s.data.toList.take m ++ r.data.toList.take q := by rw [List.take_add, hr.out]
                unfold bval
                rw [e, bvalF_append, bvalF_eq]
                rcases hq9.out with h | h
                · subst h
                  rw [List.take_zero, bvalF_nil]; omega
                · have : (r.data.toList.take q).length = 9 := by rw [List.length_take]; omega
                  rw [this]; omega
              have HRL := Lib.hid hrl
              have hlenD := nf_bval_len (l := s.data.toList.take m) (fun b hb => HA.out b (List.mem_of_mem_take hb))
              have hlenD2 : (nf (bval (s.data.toList.take m))).length ≤ 4096 := by
                rw [List.length_take, ← HLEN.out] at hlenD; omega
              have HV := Lib.hid (val_nf (bval (s.data.toList.take m)))
              have hdD := dig_nf (bval (s.data.toList.take m))
              have HN : Hid (∃ V, nf (bval (s.data.toList.take m)) = nf V ∧ bval (s.data.toList.take m) = V) := ⟨_, rfl, rfl⟩
              generalize bval (s.data.toList.take m) = V at *
              clear hq hrt hrl h9 hlenD HN
              obtain ⟨av, capv, hov⟩ : ∃ a c, u5 = .slice a (nf V).length c := by
                rcases hO.shape with ⟨h, h'⟩ | ⟨g, cap, h, _⟩
                · exact ⟨none, 0, by rw [h, h']; rfl⟩
                · exact ⟨_, _, h⟩
              subst hov
              obtain ⟨hqa, hqb, hqc, hqd⟩ := hq1
              rcases hcase with ⟨hrem, hq'⟩ | ⟨hrem, hq'⟩
              all_goals
                go_wp2
                go_loop [7, 47] (fun c i => ∃ k : Nat, k ≤ q ∧ i = .int .i64 k ∧ c = .int .u64 ((bval (r.data.toList.take k) : Nat) : Int)) (fun _ i => q - (intOf i).toNat)
                case atStart => exact ⟨0, Nat.zero_le _, rfl, rfl⟩
                case round =>
                  obtain ⟨k, hk, rfl, rfl⟩ := hrel
                  by_cases hkq : k < q
                  · have hkr : k < r.size := by omega
                    have hix := ix_str r k hkr
                    obtain ⟨d0, d1, d2⟩ := isD_bd (HRD.out k hkr)
                    have HS : Hid (bval (r.data.toList.take (k + 1)) = 10 * bval (r.data.toList.take k) + bdig (byteAt r k)) := by show _ = _; rw [take_byte hkr]; exact bvalF_snoc 0 _ _
                    have hc8 : bval (r.data.toList.take k) < 100000000 := Nat.lt_of_lt_of_le (HB.out k (by omega)) (Nat.pow_le_pow_right (by omega : 0 < 10) (by omega : k ≤ 8))
                    have hbd : bdig (byteAt r k) = (byteAt r k).toNat - 48 := rfl
                    generalize bval (r.data.toList.take k) = c at *
                    generalize bdig (byteAt r k) = d at *
                    generalize (byteAt r k).toNat = x at *
                    obtain rfl : x = 48 + d := by omega
                    clear hbd
                    go_wp2
                    go_round
                    case rel => exact ⟨k + 1, by omega, by go_num, by rw [HS.out]; go_num⟩
                    case measure => simp [intOf]; omega
                  · obtain rfl : k = q := by omega
                    have hC0 : bval (r.data.toList.take k) < 1000000000 := Nat.lt_of_lt_of_le (HB.out k hqb) (Nat.pow_le_pow_right (by omega : 0 < 10) hqb)
                    have hsub : (r.extract k r.size).size = r.size - k := by rw [str_len, Lib.extract_data, List.length_take, List.length_drop, ← HRL.out]; omega
                    have hsubL : Hid ((r.extract k r.size).data.toList = s.data.toList.drop (m + k)) := by
                      show _ = _
                      rw [Lib.extract_data, List.take_of_length_le (by rw [List.length_drop, ← HRL.out]; omega), hr.out, List.drop_drop]
                    try (rw [hq'] at hsub hsubL)
                    clear HRD HB HRL
                    generalize bval (r.data.toList.take k) = C0 at *
                    go_wp2
                    go_loopw [7, 64] (fun c i wr => ∃ (j cn : Nat) (L : List Nat), j ≤ (nf V).length ∧ i = .int .i64 j ∧ c = .int .u64 cn ∧ cn ≤ 1000000000 ∧ Own wr w.heap.size (.slice av (nf V).length capv) L ∧ Hid (L.length = (nf V).length) ∧ Hid (L.drop j = (nf V).drop j) ∧ Below w.heap.size w wr ∧
                        Hid (val (L.take j) + 4294967296 ^ j * cn = C0 + 1000000000 * val ((nf V).take j))) (fun _ i _ => (nf V).length - (intOf i).toNat)
                    case atStart => exact ⟨0, C0, nf V, Nat.zero_le _, rfl, rfl, by omega, hO, rfl, rfl, hB, by show _ = _; simp [val_nil]⟩
                    case round =>
                      obtain ⟨j, cn, L, hj, rfl, rfl, hcn, hOL, hLn, hLd, hBr, hv⟩ := hrel
                      by_cases hjl : j < (nf V).length
                      · obtain ⟨g, cap', hgc, hR⟩ := hOL.form (by rw [hLn.out]; omega)
                        rw [hLn.out] at hgc
                        injection hgc with e1 e2 e3
                        subst e1; subst e3
                        have hRl := hR.lt
                        have hRc := hR.cap
                        rw [hLn.out] at hRc
                        have cR := hR.cell (j := j) (by rw [hLn.out]; omega)
                        have fR := hR.free j
                        have hxe : (nf V).getD j 0 = L.getD j 0 := by
                          have h1 := congrArg (fun l => l.getD 0 0) hLd.out
                          simpa [List.getD_eq_getElem?_getD, List.getElem?_drop] using h1.symm
                        have hxl := dig_get hR.dig j
                        have HST := fun (x : Nat) (hx : L.getD j 0 = x) => Lib.hid (@tens_step (nf V) L j cn x (by rw [hLn.out]; omega) hLn.out.symm (by rw [hxe]; exact hx) (by rw [← hx]; exact hxl) hcn C0 hv.out)
                        have HST := HST _ rfl
                        have hLd2 : ∀ d, Hid ((L.set j d).drop (j + 1) = (nf V).drop (j + 1)) := fun d => by
                          show _ = _
                          rw [List.drop_set_of_lt (by omega), ← List.drop_drop, hLd.out, List.drop_drop]
                        clear hxe hv hLd hO hOL
                        generalize L.getD j 0 = x at *
                        go_wp2
                        go_roundw
                        case rel =>
                          obtain ⟨s1, s2⟩ := HST.out
                          have e1 : ((cn : Int) + (x : Int) * 1000000000) = ((cn + x * 1000000000 : Nat) : Int) := by omega
                          rw [e1]
                          have e2 : ((cn + x * 1000000000 : Nat) : Int) % 4294967296 = (((cn + x * 1000000000) % 4294967296 : Nat) : Int) := by omega
                          rw [e2]
                          have e4 := hR.set j (d := (cn + x * 1000000000) % 4294967296) (by omega)
                          refine ⟨j + 1, (cn + x * 1000000000) / 4294967296, L.set j ((cn + x * 1000000000) % 4294967296), by omega, by go_num, by go_num, s1, ?_, by show _ = _; rw [List.length_set]; exact hLn.out, hLd2 _, hBr.setCell (show w.heap.size ≤ g from hRl.1) _, s2⟩
                          have e5 := e4
                          unfold Row at e5
                          rw [List.length_set, hLn.out] at e5
                          exact e5
                        case measure => simp [intOf]; omega
                      · obtain rfl : j = (nf V).length := by omega
                        have hv2 := hv.out
                        rw [List.take_length, HV.out, List.take_of_length_le (by rw [hLn.out]; omega), ← hLn.out] at hv2
                        have hdL := hOL.dig
                        have hTot : Hid (val L + 4294967296 ^ L.length * cn = bval (s.data.toList.take (m + k))) := by show _ = _; rw [HT.out, hv2]
                        have hVT : V ≤ bval (s.data.toList.take (m + k)) := by rw [HT.out]; omega
                        have hBs := hBr.size
                        have hcn' := hcn
                        clear hv hv2 HT HV hLd hO hcn hC0
                        have hcn32 : cn < 4294967296 := by
                          have := hcn'
                          omega
                        by_cases hc0 : 0 < cn
                        · have HNF := Lib.hid (tens_close2 hdL hc0 hcn32 hTot.out)
                          have hlN := hLn.out
                          clear hTot hVT hcn'
                          go_wp2_with (at_builtin; go_loud (refine app_u32 _ rfl (.tmp 84) (.tmp 87) 24 24 rfl Tryd.underlying24 Tryd.underlying24 w.heap.size _ _ L [cn] rfl rfl (hOL.keep (blw_one _ _)) (own_lit _ [cn] (dig_cons hcn32 dig_nil) (by simp) _ rfl).rd (by simp; omega) (by simp; omega) ?_); intro v1 w2 o1 g1 _)
                          have hB2 := own_grown (hOL.keep (blw_one _ _)) (blw_alloc hBr _) g1 (Nat.le_refl _)
                          go_roundw
                          case rel => exact ⟨_, m + k, rfl, by omega, by omega, (by first | exact hsubL | (rw [hq']; exact hsubL)), by rw [HNF.out]; exact o1, hB2, .inr (by rw [hsub]; omega)⟩
                          case measure => first | (show (r.extract k r.size).size < r.size; omega) | (show (r.extract 9 r.size).size < r.size; omega)
                        · obtain rfl : cn = 0 := by omega
                          have hTot2 := hTot.out
                          rw [Nat.mul_zero, Nat.add_zero] at hTot2
                          have HNF := Lib.hid (tens_close rfl hLn.out hdL hTot2 hVT)
                          clear hTot hTot2 hVT
                          go_wp2
                          go_roundw
                          case rel => exact ⟨_, m + k, rfl, by omega, by omega, (by first | exact hsubL | (rw [hq']; exact hsubL)), by rw [HNF.out]; exact hOL, hBr, .inr (by rw [hsub]; omega)⟩
                          case measure => first | (show (r.extract k r.size).size < r.size; omega) | (show (r.extract 9 r.size).size < r.size; omega)
            · have hms : m = s.size := by omega
              have hrz : r.size = 0 := by omega
              have htk : s.data.toList.take m = s.data.toList := by rw [hms, HLEN.out, List.take_length]
              rw [htk] at hO
              have hlenD := nf_bval_len HA.out
              rw [← HLEN.out] at hlenD
              have hrd := hO.rd
              obtain ⟨a, c, rfl, _⟩ := id hrd
              clear htk hr h9
              go_wp2
              go_ret2
              exact .inr (.inr ⟨HP.out, _, _, _, rfl, ⟨⟨hrd, by omega⟩⟩, hB⟩)
end Go.Proofs.YtnkfbkdcplbgoaaDoor
