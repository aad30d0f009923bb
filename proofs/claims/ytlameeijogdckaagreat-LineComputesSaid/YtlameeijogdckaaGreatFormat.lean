/-
  Contract of nat.Format: the decimal digits.
-/
import Derived.Test.YtlameeijogdckaaGreatShort
import Derived.Test.YtlameeijogdckaaGreatBytes
import Derived.Test.YtlameeijogdckaaGreatDec
namespace Go.Proofs.YtlameeijogdckaaGreat
open Go.RowKit

/-- 10^k, as a plain name. -/
def p10 (k : Nat) : Nat := 10 ^ k
theorem p10_succ (k : Nat) : p10 (k + 1) = 10 * p10 k := by unfold p10; rw [Nat.pow_succ, Nat.mul_comm]
theorem p10_pos (k : Nat) : 0 < p10 k := Nat.pow_pos (by omega)
def asc (l : List Nat) : List Nat := l.map (fun d => 48 + d)
theorem asc_snoc (l : List Nat) (d : Nat) : asc (l ++ [d]) = asc l ++ [48 + d] := by simp [asc]
theorem asc_len (l : List Nat) : (asc l).length = l.length := by simp [asc]

/-- One decimal digit more: r is what is left of the chunk, A the number above it. -/
theorem dig_step {D : List Nat} {n r i A : Nat} (h : D ++ dl (r + p10 (i + 1) * A) = dl n) (h0 : ¬ (A = 0 ∧ r = 0)) :
    (D ++ [r % 10]) ++ dl (r / 10 + p10 i * A) = dl n := by
  have hp := p10_succ i
  have hpp := p10_pos i
  have e0 : r + p10 (i + 1) * A = r + 10 * (p10 i * A) := by rw [hp, Nat.mul_assoc]
  rw [e0] at h
  have hne : r + 10 * (p10 i * A) ≠ 0 := by
    intro e
    have : p10 i * A = 0 := by omega
    rcases Nat.mul_eq_zero.1 this with h1 | h1
    · omega
    · exact h0 ⟨h1, by omega⟩
  rw [dl_pos hne] at h
  have e1 : (r + 10 * (p10 i * A)) % 10 = r % 10 := by omega
  have e2 : (r + 10 * (p10 i * A)) / 10 = r / 10 + p10 i * A := by omega
  rw [e1, e2] at h
  rw [List.append_assoc]
  exact h
theorem dl_le_len {D : List Nat} {n T : Nat} (h : D ++ dl T = dl n) : D.length ≤ (dl n).length := by
  rw [← h, List.length_append]; omega

theorem val_zero_of_nf {n : Nat} (h : (nf n).length = 0) : n = 0 := nf_eq_nil.1 (List.eq_nil_of_length_eq_zero h)

set_option maxRecDepth 100000 in
set_option maxHeartbeats 2000000 in
/-- nat.Format returns the decimal digits. -/
theorem format_any (w : World) (u : Value) (la : List Nat) (hu : Rd w u la) (hla : la.length ≤ 1000000) (hdl : (dl (val la)).length ≤ 100000000) :
    Calls Tryz.prog 226 #[u] w fun e w' => e = .returned (.string (decStr (val la))) ∧ Below w.heap.size w w' := by
  have hle := nf_val_len hu.dig
  go_enter Tryz.func226, Tryz.ntmps226
  go_wp2_with fail
  refine (trim_any _ _ _ hu).mono ?_
  rintro e w1 ⟨u', rfl, hu', rfl⟩
  have hn := Lib.hid (val_nf (val la))
  have hlen : (nf (val la)).length ≤ 1000000 := by omega
  clear hle hla
  go_wp2_with fail
  go_loopw [0, 3] (fun a o wr => ∃ (c : Nat) (D : List Nat), Rd wr a (nf c) ∧ (nf c).length ≤ 1000000 ∧ OwnB wr w.heap.size o (asc D) ∧ Below w.heap.size w wr ∧ Hid (D ++ dl c = dl (val la))) (fun a _ wr => rdVal wr a)
  case atStart => exact ⟨val la, [], hu', hlen, OwnB.nil _ _, Below.refl _ _, rfl⟩
  case round =>
    obtain ⟨c, D, hA, hAl, hO, hB, hD⟩ := hrel
    obtain ⟨wo, hwo⟩ : ∃ wo : World, wo = wr := ⟨_, rfl⟩
    subst hwo
    have hA' := hA
    obtain ⟨a, cap, rfl, hcp, hcm, hda, hra⟩ := hA
    by_cases hc0 : c ≠ 0
    · have hp := nf_len_pos hc0
      go_wp2_with fail
      have hs := short_any _ _ _ 1000000000 hA' hAl (by omega) (by omega)
      rw [val_nf] at hs
      have hr9 : c % 1000000000 < p10 9 := Nat.mod_lt _ (by omega)
      have hD2 : D ++ dl (c % 1000000000 + p10 9 * (c / 1000000000)) = dl (val la) := by
        have : c % 1000000000 + p10 9 * (c / 1000000000) = c := Nat.mod_add_div c 1000000000
        rw [this]; exact hD.out
      have hMlt : c / 1000000000 < c := by omega
      have hzl : (nf (c / 1000000000)).length ≤ (nf c).length := nf_len_mono (by omega)
      unfold ShortPost at hs
      generalize c / 1000000000 = A at *
      generalize c % 1000000000 = r0 at *
      refine hs.mono ?_
      rintro e w2 ⟨z, rfl, hz, hb2⟩
      have HD2 := Lib.hid hD2
      have HR9 := Lib.hid hr9
      have hO2 := hO.keep hb2
      have hmes : rdVal wo (.slice a (nf c).length cap) = c := by rw [rdVal_eq hA', val_nf]
      have HM := Lib.hid hmes
      have HML := Lib.hid hMlt
      have hzr := hz.rd
      clear hD2 hr9 hD hO hmes hMlt hs
      have hzr2 := hz
      obtain ⟨az, capz, rfl, _, _, _, _⟩ := hzr
      go_wp2_with fail
      have hB2 := hB.trans (hb2.mono hB.size)
      have hB0s := hB2.size
      go_loopw [3, 4, 15] (fun o r i wr => ∃ (k rn : Nat) (D : List Nat), k ≤ 9 ∧ i = .int .i64 k ∧ r = .int .u32 rn ∧ rn < 4294967296 ∧ Hid (rn < p10 (9 - k)) ∧ OwnB wr w.heap.size o (asc D) ∧ Below w.heap.size w wr ∧ Own wr wo.heap.size (.slice az (nf A).length capz) (nf A) ∧ Hid (D ++ dl (rn + p10 (9 - k) * A) = dl (val la))) (fun _ _ i _ => 9 - (intOf i).toNat)
      case atStart => exact ⟨0, r0, D, by omega, rfl, rfl, by have := HR9.out; unfold p10 at this; omega, HR9, hO2, hB2, hzr2, HD2⟩
      case round =>
        obtain ⟨k, rn, D, hk, rfl, rfl, hrl, hrp, hO, hB, hBw, hD⟩ := hrel
        have hsz := hB.size
        have hDl : D.length ≤ 100000000 := Nat.le_trans (dl_le_len hD.out) hdl
        by_cases hk9 : k < 9
        · by_cases hA0 : A = 0 ∧ rn = 0
          · obtain ⟨rfl, rfl⟩ := hA0
            have hb0 : (((nf 0).length : Int) == 0) = true := rfl
            have HE : Hid (D ++ dl 0 = dl (val la)) := by
              have := hD.out
              rw [Nat.mul_zero, Nat.add_zero] at this
              exact this
            have hzk := hBw.rd
            have hmz : Hid (rdVal wr (.slice az (nf 0).length capz) = 0) := by
              show _ = _
              rw [rdVal_eq hzk, val_nf]
            clear hD hO2
            go_wp2
            go_roundw
            case rel => exact ⟨0, D, hzk, by show 0 ≤ 1000000; omega, hO, hB, HE⟩
            case measure =>
              have h1 := hmz.out
              have h2 := HM.out
              have h3 := HML.out
              show rdVal wr (.slice az (nf 0).length capz) < rdVal wo (.slice a (nf c).length cap)
              rw [h1, h2]; exact h3
          · have hst := fun h => @dig_step D (val la) rn (8 - k) A h hA0
            rw [show 8 - k + 1 = 9 - k by omega] at hst
            have HST := Lib.hid (hst hD.out)
            have hrp2 : Hid (rn / 10 < p10 (9 - (k + 1))) := by
              have h1 := hrp.out
              rw [show 9 - k = (8 - k) + 1 by omega, p10_succ] at h1
              show rn / 10 < p10 (9 - (k + 1))
              rw [show 9 - (k + 1) = 8 - k by omega]
              omega
            have hbb : (((nf A).length : Int) == 0) = false ∨ ((((nf A).length : Int) == 0) = true ∧ ((rn : Int) == 0) = false) := by
              by_cases h1 : (nf A).length = 0
              · right
                refine ⟨by rw [h1]; rfl, ?_⟩
                rw [beq_eq_false_iff_ne]
                intro h2
                exact hA0 ⟨val_zero_of_nf h1, by omega⟩
              · left
                rw [beq_eq_false_iff_ne]; omega
            have hdg : (48 : Int) + (rn : Int) % 10 = ((48 + rn % 10 : Nat) : Int) := by omega
            have hwb : (48 : Int) + (rn : Int) % 10 < 256 := by omega
            clear hst hA0 hdg
            rcases hbb with hb0 | ⟨hb0, hb1⟩
            all_goals
              go_wp2_with (at_builtin; go_loud (refine app_byte wr rfl (.tmp 24) (.tmp 29) 249 rfl Tryz.underlying249 w.heap.size _ (asc D) (48 + rn % 10) rfl rfl hO (by rw [asc_len]; omega) hsz ?_); intro v3 w3 o3 hB3 hZ3)
              go_roundw
              case rel =>
                have e8 : 9 - (k + 1) = 8 - k := by omega
                exact ⟨k + 1, rn / 10, D ++ [rn % 10], by omega, by go_num, by go_num, by omega, hrp2, by rw [asc_snoc]; exact o3, hB3 w hB (Nat.le_refl _), hZ3 _ _ _ hBw, by rw [e8]; exact HST⟩
              case measure => simp [intOf]; omega
        · obtain rfl : k = 9 := by omega
          have hr0 : rn = 0 := by
            have h1 : rn < 1 := hrp.out
            omega
          subst hr0
          have HE : Hid (D ++ dl A = dl (val la)) := by
            have := hD.out
            have e1 : p10 (9 - 9) = 1 := rfl
            rw [e1, Nat.one_mul, Nat.zero_add] at this
            exact this
          have hzk := hBw.rd
          have hmz : Hid (rdVal wr (.slice az (nf A).length capz) = A) := by
            show _ = _
            rw [rdVal_eq hzk, val_nf]
          clear hD hO2
          go_wp2
          go_roundw
          case rel => exact ⟨A, D, hzk, by omega, hO, hB, HE⟩
          case measure =>
            have h1 := hmz.out
            have h2 := HM.out
            have h3 := HML.out
            show rdVal wr (.slice az (nf A).length capz) < rdVal wo (.slice a (nf c).length cap)
            rw [h1, h2]; exact h3
    · have hc1 : c = 0 := by omega
      subst hc1
      have hl0 : (nf 0).length = 0 := rfl
      generalize (nf 0).length = n0 at *
      subst hl0
      have HE : Hid (D = dl (val la)) := by
        have := hD.out
        rw [dl_zero, List.append_nil] at this
        exact this
      by_cases hz0 : val la = 0
      · have hD0 : D = [] := by rw [HE.out, hz0]; rfl
        subst hD0
        have hs0 : u3 = .slice none 0 0 ∨ ∃ g cap, u3 = .slice (some ⟨g, 0, none⟩) 0 cap := by
          rcases hO.shape with ⟨h1, _⟩ | ⟨g, cap, h1, _⟩
          · exact .inl h1
          · exact .inr ⟨g, cap, h1⟩
        have HS := Lib.hid (show decStr (val la) = ⟨#[48]⟩ by rw [hz0]; rfl)
        clear hD HE hz0
        rcases hs0 with rfl | ⟨g, cap', rfl⟩
        all_goals
          go_wp2
          go_ret
          exact ⟨by rw [HS.out]; rfl, hB⟩
      · have hDl : D.length ≤ 100000000 := by rw [HE.out]; exact hdl
        have hD0 : 0 < D.length := by
          rcases Nat.eq_zero_or_pos D.length with h1 | h1
          · have : dl (val la) = [] := by rw [← HE.out]; exact List.eq_nil_of_length_eq_zero h1
            exact absurd (dl_eq_nil.1 this) hz0
          · exact h1
        rcases hO.shape with ⟨_, h1⟩ | ⟨g, cap', h1, hg1, hg2, hgc, hgm, hrow⟩
        · have := congrArg List.length h1
          rw [asc_len, List.length_nil] at this
          omega
        · have hbb : (((asc D).length : Int) == 0) = false := by rw [beq_eq_false_iff_ne, asc_len]; omega
          have HS : Hid (decStr (val la) = strOfNums ((asc D).reverse.map (fun d : Nat => (d : Int)))) := by
            show decStr (val la) = _
            unfold decStr strOfNums
            rw [decBytes_pos hz0, HE.out, List.map_map]
            rfl
          subst h1
          clear hD hz0
          go_wp2_with fail
          refine (reverse_row _ _ _ _ _ _ hrow rfl (by rw [asc_len]; omega)).mono ?_
          rintro e w3 ⟨rfl, hrow3, hB3⟩
          have hcv : ∀ dst, Tryz.prog.underlying dst = some .string → (convert 249 dst (.slice (some ⟨g, 0, none⟩) (asc D).length cap')).run Tryz.prog w3 = .ok (.string (strOfNums ((asc D).reverse.map (fun d : Nat => (d : Int))))) w3 :=
            run_convert_bytes_arg w3 249 5 Tryz.underlying249 Tryz.underlying5 g 0 _ cap' _ (by simp) (fun i hi => by
              rw [Nat.zero_add, hrow3.cell (by simpa using hi), List.getD_eq_getElem?_getD, List.getD_eq_getElem?_getD, List.getElem?_map]
              cases (asc D).reverse[i]? <;> rfl)
          have hcv9 := hcv 9 Tryz.underlying9
          clear hcv
          generalize strOfNums ((asc D).reverse.map (fun d : Nat => (d : Int))) = S at *
          go_wp2
          go_ret
          exact ⟨by rw [HS.out]; rfl, hB.trans (hB3.mono hg1)⟩
end Go.Proofs.YtlameeijogdckaaGreat
