/-
  The law NatLimits.
-/
import Derived.Test.YtnkfbkdcplbgoaaDoorLawNTexts
namespace Go.Proofs.YtnkfbkdcplbgoaaDoor
open Go.RowKit

theorem wf_u8 {n : Int} (h : (Lit.int .u8 n).wf = true) : 0 ≤ n ∧ n < 256 := by
  have h2 : 0 ≤ n ∧ n ≤ 255 := by simpa [Lit.wf, IntKind.min, IntKind.max, IntKind.signed, IntKind.bits] using h
  omega
theorem rowB_made {w : World} {base g n : Nat} (h : w.ownsRow base 5 1 (.slice (some ⟨g, 0, none⟩) n n) n (madeCells (Value.cells (.int .u8 0)) (n * 1)).toList) : RowB w base g n (List.replicate n 0) := by
  have e : (madeCells (Value.cells (.int .u8 0)) (n * 1)).toList = (List.replicate n 0).map dvb := by
    rw [Nat.mul_one]
    show (madeCells #[.int .u8 0] n).toList = _
    rw [toList_madeCells_one, List.map_replicate]
    rfl
  rw [e] at h
  unfold RowB OwnB
  rw [List.length_replicate]
  exact h
/-- 'make' of n bytes: a new row of zeros. -/
theorem make_u8 (w : World) {ops : Array Oper} {rest : List Oper} {o : Oper} {a : Act} {Q : Exit → Act → World → Prop}
    (hg : o.guard = none) (l c : Operand) (t : TypeId) (hop : o.op = Op.makeSlice t l c) (h1 : Tryd.prog.underlying t = some (.slice 5))
    (L C : Int) (n : Nat) (hl : a.eval l = .int .i64 L) (hc : a.eval c = .int .i64 C) (hL : L = (n : Int)) (hC : C = (n : Int)) (hn : n ≤ 1000000000)
    (hK : ∀ w', RowB w' w.heap.size w.heap.size n (List.replicate n 0) → Below w.heap.size w w' → wpList Tryd.prog ops Q rest (a.put o.dst (.slice (some ⟨w.heap.size, 0, none⟩) n n)) w') :
    wpList Tryd.prog ops Q (o :: rest) a w := by
  obtain ⟨i0, hi, hz0, hz1, hz2⟩ := info_parts info_u8
  exact wpList_make_full w hg l c t hop w.heap.size 5 i0 (.int .u8 0) 1 h1 hi hz0 hz1 .i64 .i64 L C n hl hc hL hC (by rw [hz2]; omega) (by unfold maxLen; omega) (Nat.le_refl _)
    fun w' r g => hK w' (rowB_made r) ((Below.refl w.heap.size w).grown g (Nat.le_refl _) (by simp))
/-- The bytes of the law: zeros, then one byte. -/
def limL (n y : Nat) : List Nat := List.replicate (n - 1) 48 ++ [y]
theorem limL_eq {L : List Nat} {n y : Nat} (h : 0 < n) (hl : L.length = n) (hL : ∀ j, j < n → L.getD j 0 = 48) : L.set (n - 1) y = limL n y := by
  have e : L = List.replicate n 48 := list_ext_getD (by rw [hl, List.length_replicate]) fun j hj => by
    rw [hL j (by omega), List.getD_eq_getElem?_getD, List.getElem?_replicate, if_pos (by omega)]; rfl
  obtain ⟨k, rfl⟩ : ∃ k, n = k + 1 := ⟨n - 1, by omega⟩
  rw [e, List.replicate_succ']
  simp [limL]
theorem limL_len {n y : Nat} (h : 0 < n) : (limL n y).length = n := by unfold limL; rw [List.length_append, List.length_replicate]; show n - 1 + 1 = n; omega
def limS (n y : Nat) : ByteArray := strOfNums ((limL n y).map (fun d : Nat => (d : Int)))
theorem limS_data (n y : Nat) : (limS n y).data.toList = List.replicate (n - 1) 48 ++ [UInt8.ofNat y] := by
  unfold limS strOfNums limL
  simp
theorem bval_zeros (k : Nat) : bval (List.replicate k 48) = 0 := by
  induction k with
  | zero => rfl
  | succ k ih =>
    rw [List.replicate_succ']
    unfold bval at *
    rw [bvalF_snoc, ih]; rfl
theorem u8_nat {y : Nat} (h : y < 256) : (UInt8.ofNat y).toNat = y := by simp; omega
theorem lim1 {n y : Nat} (hy : y < 256) (h : y < 48 ∨ 57 < y) : pKind (limS n y).data.toList = 1 := by
  have hD : isD (UInt8.ofNat y) = false := by
    unfold isD
    rw [u8_nat hy]
    rcases h with h | h
    · rw [decide_eq_false (by omega : ¬ 48 ≤ y)]; rfl
    · rw [decide_eq_false (by omega : ¬ y ≤ 57), Bool.and_false]
  rw [limS_data]
  unfold pKind
  rw [if_pos (.inr ⟨UInt8.ofNat y, by simp, hD⟩)]
theorem limD {n y : Nat} (hy : y < 256) (h : 48 ≤ y ∧ y ≤ 57) : ¬ (List.replicate (n - 1) (48 : UInt8) ++ [UInt8.ofNat y] = [] ∨ ∃ b ∈ List.replicate (n - 1) (48 : UInt8) ++ [UInt8.ofNat y], isD b = false) := by
  rintro (h1 | ⟨b, hb, h1⟩)
  · simp at h1
  · rcases List.mem_append.1 hb with h2 | h2
    · rw [(List.mem_replicate.1 h2).2] at h1
      exact absurd h1 (by decide)
    · rw [List.mem_singleton.1 h2] at h1
      unfold isD at h1
      rw [u8_nat hy, decide_eq_true h.1, decide_eq_true h.2] at h1
      cases h1
theorem lim2 {n y : Nat} (hn : 4096 < n) (hy : y < 256) (h : 48 ≤ y ∧ y ≤ 57) : pKind (limS n y).data.toList = 2 := by
  rw [limS_data]
  unfold pKind
  rw [if_neg (limD hy h), if_pos]
  rw [List.length_append, List.length_replicate]
  show 4096 < n - 1 + 1
  omega
theorem lim0 {n y : Nat} (h0 : 0 < n) (hn : n ≤ 4096) (hy : y < 256) (h : 48 ≤ y ∧ y ≤ 57) : pKind (limS n y).data.toList = 0 ∧ bval (limS n y).data.toList = y - 48 := by
  rw [limS_data]
  refine ⟨?_, ?_⟩
  · unfold pKind
    rw [if_neg (limD hy h), if_neg]
    rw [List.length_append, List.length_replicate]
    show ¬ 4096 < n - 1 + 1
    omega
  · have := bval_zeros (n - 1)
    unfold bval at *
    rw [bvalF_snoc, this]
    unfold bdig
    rw [u8_nat hy, Nat.mul_zero, Nat.zero_add]
theorem limS_size {n y : Nat} (h : 0 < n) : (limS n y).size = n := by
  rw [str_len, limS_data, List.length_append, List.length_replicate]
  show n - 1 + 1 = n
  omega
set_option maxRecDepth 100000 in
set_option maxHeartbeats 4000000 in
set_option synthInstance.maxSize 100000 in
set_option synthInstance.maxHeartbeats 1000000 in
theorem natLimits_walk (a0 a1 : Int) (w : World) (w0 : (Lit.int .u8 a0).wf = true) (w1 : (Lit.int .u8 a1).wf = true) (hL : laidMetH Tryd.prog laid2 w) :
    Calls Tryd.prog 3 #[.int .u8 a0, .int .u8 a1] w fun e w' => e = .returned (.bool true) ∧ Below w.heap.size w w' := by
  obtain ⟨s0, s1, i0, i1, hne⟩ := sents2 hL
  clear hL hne
  have h0 := wf_u8 w0
  have h1 := wf_u8 w1
  obtain ⟨m, rfl⟩ := Int.eq_ofNat_of_zero_le h0.1
  obtain ⟨y, rfl⟩ := Int.eq_ofNat_of_zero_le h1.1
  clear w0 w1
  have hm : m < 256 := by omega
  have hy : y < 256 := by omega
  clear h0 h1
  obtain ⟨n, hn⟩ : ∃ n : Nat, n = 4088 + m % 16 := ⟨_, rfl⟩
  have hn1 : 4088 ≤ n := by omega
  have hn2 : n ≤ 4103 := by omega
  have en : (4088 : Int) + (m : Int) % 16 = (n : Int) := by omega
  have HSZ : Hid ((limS n y).size ≤ 1000000000) := by show _ ≤ _; rw [limS_size (by omega)]; omega
  have H1 := Lib.hid (fun h => @lim1 n y hy h)
  have H2 := Lib.hid (fun h1 h => @lim2 n y h1 hy h)
  have H0 := Lib.hid (fun h1 h => @lim0 n y (by omega) h1 hy h)
  have HLE := Lib.hid (fun L h1 h2 => @limL_eq L n y (by omega) h1 h2)
  have HLL := Lib.hid (@limL_len n y (by omega))
  clear hn
  go_enter Tryd.func3, Tryd.ntmps3
  go_wp2_with (at_make; go_loud (refine make_u8 _ rfl (.tmp 14) (.tmp 14) 22 rfl Tryd.underlying22 _ _ n rfl rfl (by omega) (by omega) (by omega) ?_); intro w1 R0 B0)
  go_loopw [18] (fun iv wr => ∃ (k : Nat) (L : List Nat), k ≤ n ∧ iv = .int .i64 k ∧ RowB wr w.heap.size w.heap.size n L ∧ Hid (L.length = n) ∧ Below w.heap.size w wr ∧ Hid (∀ j, j < k → L.getD j 0 = 48)) (fun i _ => n - (intOf i).toNat)
  case atStart => exact ⟨0, _, Nat.zero_le _, rfl, R0, by show _ = _; simp, B0, fun j hj => absurd hj (by omega)⟩
  case round =>
    obtain ⟨k, L, hk, rfl, hR, hLn, hB, hE⟩ := hrel
    have hRl := hR.lt
    by_cases hlt : k < n
    · have cR := hR.cell (j := k) (by rw [hLn.out]; exact hlt)
      have fR := hR.free k
      have HE2 : Hid (∀ j, j < k + 1 → (L.set k 48).getD j 0 = 48) := fun j hj => by
        by_cases h : j = k
        · subst h; exact set_getD_eq _ _ _ (by rw [hLn.out]; exact hlt)
        · rw [set_getD_ne _ _ _ _ (Ne.symm h)]; exact hE.out j (by omega)
      generalize L.getD k 0 = z at *
      go_wp2
      go_roundw
      case rel => exact ⟨k + 1, L.set k 48, by omega, by go_num, hR.set k 48, by show _ = _; rw [List.length_set]; exact hLn.out, hB.setCell (Nat.le_refl _) _, HE2⟩
      case measure => simp [intOf]; omega
    · obtain rfl : k = n := by omega
      have cR := hR.cell (j := k - 1) (by rw [hLn.out]; omega)
      have fR := hR.free (k - 1)
      generalize L.getD (k - 1) 0 = z at *
      have hR2 := hR.set (k - 1) y
      rw [HLE.out L hLn.out hE.out] at hR2
      have hB2 := hB.setCell (p := ⟨w.heap.size, k - 1, none⟩) (Nat.le_refl _) (.int .u8 (y : Int))
      have hcv : (convert 22 9 (.slice (some ⟨w.heap.size, 0, none⟩) k k)).run Tryd.prog (wr.setCell ⟨w.heap.size, k - 1, none⟩ (.int .u8 (y : Int))) = .ok (.string (limS k y)) (wr.setCell ⟨w.heap.size, k - 1, none⟩ (.int .u8 (y : Int))) :=
        run_convert_bytes_arg _ 22 5 Tryd.underlying22 Tryd.underlying5 w.heap.size 0 k k _ (by rw [List.length_map]; exact HLL.out) (fun i hi => by
          rw [Nat.zero_add, hR2.cell (by rw [HLL.out]; exact hi), List.getD_eq_getElem?_getD, List.getD_eq_getElem?_getD, List.getElem?_map]
          cases (limL k y)[i]? <;> rfl) 9 Tryd.underlying9
      have ik : Kp1 w (wr.setCell ⟨w.heap.size, k - 1, none⟩ (.int .u8 (y : Int))) := ⟨hB2⟩
      generalize limS k y = S at *
      clear hE hR2 hLn HLE HLL
      go_wp2_with fail
      by_cases hd : y < 48 ∨ 57 < y
      · have HK := Lib.hid (H1.out hd)
        clear H1 H2 H0
        with_reducible refine Calls.kErr (parse1 inferInstance inferInstance HSZ.out HK.out) ?_
        intro W3 _ b3 t3 _ _
        rcases hd with hd | hd
        all_goals
          go_wp2_with fail
          with_reducible refine Calls.cE (known_any _) ?_
          intro W4 _
          go_wp2_with fail
          refine isSameC.mono ?_
          rintro e W5 ⟨rfl, rfl⟩
          go_wp2_with fail
          go_ret
          exact E.fin rfl
      · have hd2 : 48 ≤ y ∧ y ≤ 57 := by omega
        obtain ⟨hd3, hd4⟩ := hd2
        by_cases hbig : 4096 < k
        · have HK := Lib.hid (H2.out hbig ⟨hd3, hd4⟩)
          clear H1 H2 H0 hd
          with_reducible refine Calls.kErr (parse2 inferInstance inferInstance HSZ.out HK.out) ?_
          intro W3 _ b3 t3 _ _
          go_wp2_with fail
          with_reducible refine Calls.cE (known_any _) ?_
          intro W4 _
          go_wp2_with fail
          refine isSameC.mono ?_
          rintro e W5 ⟨rfl, rfl⟩
          go_wp2_with fail
          go_ret
          exact E.fin rfl
        · have HK := Lib.hid (H0.out (by omega) ⟨hd3, hd4⟩)
          clear H1 H2 H0 hd
          obtain ⟨d, rfl⟩ : ∃ d, y = 48 + d := ⟨y - 48, by omega⟩
          have HK2 : Hid (pKind S.data.toList = 0 ∧ bval S.data.toList = d) := ⟨HK.out.1, by rw [HK.out.2]; omega⟩
          clear HK
          have hw8 : IntKind.u8.wrap (48 + (d : Int) - 48) = d := by rw [show (48 : Int) + d - 48 = d by omega]; simp [IntKind.wrap, IntKind.signed, IntKind.bits]; omega
          have hw64 : IntKind.u64.wrap (d : Int) = d := by simp [IntKind.wrap, IntKind.signed, IntKind.bits]; omega
          with_reducible refine Calls.kNum (parse0 inferInstance inferInstance HSZ.out HK2.out) ?_
          intro W3 _ a3 l3 c3 _
          go_wp2_with fail
          with_reducible refine Calls.cE (known_any _) ?_
          intro W4 _
          go_wp2_with fail
          with_reducible refine Calls.cN (wordC (by omega)) ?_
          intro W5 _ a5 l5 c5 i5
          rw [Int.natAbs_natCast] at i5
          go_wp2_with fail
          with_reducible refine Calls.cE (same01C (by omega)) ?_
          intro W6 _
          go_wp2_with fail
          go_ret
          exact E.fin rfl
end Go.Proofs.YtnkfbkdcplbgoaaDoor
