/-
  The lexer's reader: the next token.
  Printed by a small program (mklex4.py).
-/
import Derived.Test.YtlameeijogdckaaDoorLw3
import Derived.Test.YtlameeijogdckaaDoorLz2
import Derived.Test.YtlameeijogdckaaDoorAs2
namespace Go.Proofs.YtlameeijogdckaaDoor
open Go.RowKit

theorem ret_ct {P : Program} {fn : Func} {R : Ending → World → Prop} {a : Act} {W : World} {p u : Tmp} {ty : TypeId} {b1 : Nat} {v1 : Value} (hr : fn.results = #[.cell p ty, .tmp u])
    (hp : a.tmps.getD p undef = .pointer (some ⟨b1, 0, none⟩)) (h1 : (loadVar ty ⟨b1, 0, none⟩).run P W = .ok v1 W)
    (hdf : a.defers = []) (hR : R (.returned (.tuple #[v1, a.tmps.getD u undef])) W) : bodyPost P fn R .ret a W := by
  refine ⟨hdf, _, ?_, hR⟩
  have hp' : a.tmps[p]?.getD undef = .pointer (some ⟨b1, 0, none⟩) := by simpa using hp
  simp [results, hr, hp', asAddr, h1]
theorem ret_bt {P : Program} {fn : Func} {R : Ending → World → Prop} {a : Act} {W : World} {b : Nat} {p u : Tmp} {ty t : TypeId} {d : TypeDesc} {l l' : List Value} [hb : Bx W b t l] (hr : fn.results = #[.cell p ty, .tmp u])
    (hu : P.underlying ty = some d) (hd : (match d with | .struct _ | .array _ _ => true | _ => false) = true) (hi : (P.info? ty).map (·.size) = some l.length)
    (hp : a.tmps.getD p undef = .pointer (some ⟨b, 0, none⟩)) (hdf : a.defers = []) (hl : l = l') (hR : R (.returned (.tuple #[.agg l'.toArray, a.tmps.getD u undef])) W) : bodyPost P fn R .ret a W := by
  subst hl
  exact ret_ct hr hp (loadVar_at W b ty l d hu hd hi (fun j hj => by rw [cell_bx, List.getElem?_eq_getElem hj])) hdf hR
theorem runV2 {w : World} {r q : Nat} {s : ByteArray} {p l c v : Nat} [h : Bx w r 48 [.string s, .int .i64 ((p : Nat) : Int), .int .i64 ((l : Nat) : Int), .int .i64 ((c : Nat) : Int)]] [hq : Bx w q 52 [.int .i64 3, .int .i64 4]] (b : p ≤ s.size ∧ s.size ≤ 100000) (hv : Hid (runL isWd (s.data.toList.drop p) = v)) :
    Calls Tryd.prog 34 #[.pointer (some ⟨r, 0, none⟩), .slice (some ⟨q, 0, none⟩) 2 2] w fun e w' => e = .returned (.int .i64 ((v : Nat) : Int)) ∧ Below w.heap.size w w' := by
  rw [← hv.out]; exact runC2 b
theorem runV1 {w : World} {r q : Nat} {s : ByteArray} {p l c v : Nat} [h : Bx w r 48 [.string s, .int .i64 ((p : Nat) : Int), .int .i64 ((l : Nat) : Int), .int .i64 ((c : Nat) : Int)]] [hq : Bx w q 52 [.int .i64 4]] (b : p ≤ s.size ∧ s.size ≤ 100000) (hv : Hid (runL isDg (s.data.toList.drop p) = v)) :
    Calls Tryd.prog 34 #[.pointer (some ⟨r, 0, none⟩), .slice (some ⟨q, 0, none⟩) 1 1] w fun e w' => e = .returned (.int .i64 ((v : Nat) : Int)) ∧ Below w.heap.size w w' := by
  rw [← hv.out]; exact runC1 b
theorem takeV {w : World} {r : Nat} {s : ByteArray} {p l c k : Nat} {T : List UInt8} [h : Bx w r 48 [.string s, .int .i64 ((p : Nat) : Int), .int .i64 ((l : Nat) : Int), .int .i64 ((c : Nat) : Int)]] (b : p + k ≤ s.size ∧ s.size ≤ 100000 ∧ c ≤ 300000) (hv : Hid ((s.data.toList.drop p).take k = T)) :
    Calls Tryd.prog 33 #[.pointer (some ⟨r, 0, none⟩), .int .i64 ((k : Nat) : Int)] w (RdRet w r s (p + k) l (c + k) (strV T)) := by
  rw [← hv.out]; exact takeC b
theorem takeV1 {w : World} {r : Nat} {s : ByteArray} {p l c : Nat} {T : List UInt8} [h : Bx w r 48 [.string s, .int .i64 ((p : Nat) : Int), .int .i64 ((l : Nat) : Int), .int .i64 ((c : Nat) : Int)]] (b : p + 1 ≤ s.size ∧ s.size ≤ 100000 ∧ c ≤ 300000) (hv : Hid ((s.data.toList.drop p).take 1 = T)) :
    Calls Tryd.prog 33 #[.pointer (some ⟨r, 0, none⟩), .int .i64 1] w (RdRet w r s (p + 1) l (c + 1) (strV T)) := takeV (k := 1) b hv
instance (priority := low) Ge.kz {w W : World} [h : Kz w W] : Ge w W.heap.size := ⟨h.out⟩
theorem cls_tok {b : UInt8} (h1 : b.toNat ≠ 10) (h2 : isBl b = false) (h3 : b.toNat ≠ 35) : (isLetter b = true ∧ cls b = 3) ∨ (isDg b = true ∧ cls b = 4) ∨ (isSg b = true ∧ cls b = 5) ∨ ((isLetter b = false ∧ isDg b = false ∧ isSg b = false) ∧ cls b = 0) := by
  cases h4 : isLetter b with
  | true => exact .inl ⟨rfl, (cls_lt h4).2.2.2.2.2⟩
  | false =>
    cases h5 : isDg b with
    | true => exact .inr (.inl ⟨rfl, (cls_dg h5).2.2.2.2.2⟩)
    | false =>
      cases h6 : isSg b with
      | true => exact .inr (.inr (.inl ⟨rfl, (cls_sg h6).2.2.2.2.2⟩))
      | false => exact .inr (.inr (.inr ⟨⟨rfl, rfl, rfl⟩, cls_ot h1 h2 h3 h4 h5 h6⟩))
/-- The sentinel of a kind of error. -/
def sntA (aS aL : Addr) (k : Nat) : Addr := if k = 1 then aS else aL
/-- The next token, or the end, or an error. -/
def NxRet (w : World) (r : Nat) (s : ByteArray) (aS aL : Addr) (p l c : Nat) (e : Ending) (w' : World) : Prop :=
  w.grownBy w' (some r) ∧
  ((∃ l' c', tkAt s p l c = .ok [⟨0, [], l', c'⟩] ∧ e = .returned (.tuple #[.agg (tkV ⟨0, [], l', c'⟩).toArray, .nilIface])) ∨
   (∃ t p' l' c', tkAt s p l c = Tr.cons t (tkAt s p' l' c') ∧ t.kind ≠ 0 ∧ p < p' ∧ p' ≤ s.size ∧ l' + p ≤ l + p' ∧ c' + p ≤ c + p' ∧ 1 ≤ c' ∧ Bx w' r 48 [.string s, .int .i64 ((p' : Nat) : Int), .int .i64 ((l' : Nat) : Int), .int .i64 ((c' : Nat) : Int)] ∧ e = .returned (.tuple #[.agg (tkV t).toArray, .nilIface])) ∨
   (∃ k n c' t b, (k = 1 ∨ k = 2) ∧ tkAt s p l c = .er k n c' t ∧ Bx w' b 45 [.iface 94 (.pointer (some (sntA aS aL k))), .int .i64 ((n : Nat) : Int), .int .i64 ((c' : Nat) : Int), strV t] ∧ w.heap.size ≤ b ∧
      e = .returned (.tuple #[.agg #[.int .i64 0, .string ⟨#[]⟩, .int .i64 0, .int .i64 0], .iface 40 (.pointer (some ⟨b, 0, none⟩))])))
theorem Calls.cNx {P : Program} {f : FuncId} {args : Array Value} {w : World} {r : Nat} {s : ByteArray} {aS aL : Addr} {p l c : Nat} {K : Ending → World → Prop} (h : Calls P f args w (NxRet w r s aS aL p l c))
    (hK : ∀ w' [Md1 w w' r], (∀ l' c', tkAt s p l c = .ok [⟨0, [], l', c'⟩] → K (.returned (.tuple #[.agg (tkV ⟨0, [], l', c'⟩).toArray, .nilIface])) w') ∧
      (∀ t p' l' c' [Bx w' r 48 [.string s, .int .i64 ((p' : Nat) : Int), .int .i64 ((l' : Nat) : Int), .int .i64 ((c' : Nat) : Int)]], tkAt s p l c = Tr.cons t (tkAt s p' l' c') → t.kind ≠ 0 → p < p' → p' ≤ s.size → l' + p ≤ l + p' → c' + p ≤ c + p' → 1 ≤ c' → K (.returned (.tuple #[.agg (tkV t).toArray, .nilIface])) w') ∧
      (∀ k n c' t b [Bx w' b 45 [.iface 94 (.pointer (some (sntA aS aL k))), .int .i64 ((n : Nat) : Int), .int .i64 ((c' : Nat) : Int), strV t]], (k = 1 ∨ k = 2) → tkAt s p l c = .er k n c' t → w.heap.size ≤ b →
        K (.returned (.tuple #[.agg #[.int .i64 0, .string ⟨#[]⟩, .int .i64 0, .int .i64 0], .iface 40 (.pointer (some ⟨b, 0, none⟩))])) w')) : Calls P f args w K := by
  refine h.mono ?_
  rintro e w' ⟨hg, h⟩
  obtain ⟨k1, k2, k3⟩ := @hK w' ⟨hg⟩
  rcases h with ⟨l', c', h1, rfl⟩ | ⟨t, p', l', c', h1, h2, h3, h4, h5, h6, h7, h8, rfl⟩ | ⟨k, n, c', t, b, h1, h2, h3, h4, rfl⟩
  · exact k1 l' c' h1
  · exact @k2 t p' l' c' h8 h1 h2 h3 h4 h5 h6 h7
  · exact @k3 k n c' t b h3 h1 h2 h4
set_option maxRecDepth 100000 in
set_option maxHeartbeats 4000000 in
set_option synthInstance.maxSize 100000 in
set_option synthInstance.maxHeartbeats 1000000 in
theorem nextC {w w2 : World} {r : Nat} {s : ByteArray} {aS aL : Addr} {p l c : Nat} [h : Bx w r 48 [.string s, .int .i64 ((p : Nat) : Int), .int .i64 ((l : Nat) : Int), .int .i64 ((c : Nat) : Int)]] [hS : Snt w 0 aS w2] [hL : Snt w 1 aL w2] [gS : Ge w2 r] [zS : Kz w2 w] (b : p ≤ s.size ∧ s.size ≤ 100000 ∧ l ≤ 150000 ∧ c ≤ 150000 ∧ 1 ≤ c) :
    Calls Tryd.prog 19 #[.pointer (some ⟨r, 0, none⟩)] w (NxRet w r s aS aL p l c) := by
  obtain ⟨b1, b2, b3, b4, b5⟩ := b
  go_enter Tryd.func19, Tryd.ntmps19
  go_wp2_with (first | (go_at_call 32; (with_reducible refine Calls.cSk (skipC ⟨by omega, by omega, by omega, by omega, by omega⟩) ?_); intro w1 i1 p' l' c' i2 hT g1 g2 g3 g4 g5 g6))
  refine region_cls (by kernel_rfl) [] (fun hHeld => ?_)
  refine wpAnyH_take (i := 0) (v := ?z1) (by simp; rfl) (by kernel_rfl) (by kernel_rfl) (by kernel_rfl) (by exact fun _ _ _ h => h) (Or.inl ⟨by rfl, ?yz1⟩) hHeld ?_
  case yz1 => (intro wx hSw; have hSx := Ex1.mk hSw; go_simp; (try with_reducible rfl))
  try simp only [Act.put, List.setIfInBounds_toArray, List.set_cons_zero, List.set_cons_succ]
  refine wpAnyH_take (i := 1) (v := ?z2) (by simp; rfl) (by kernel_rfl) (by kernel_rfl) (by kernel_rfl) (by exact fun _ _ _ h => h) (Or.inl ⟨by rfl, ?yz2⟩) hHeld ?_
  case yz2 => (intro wx hSw; have hSx := Ex1.mk hSw; go_simp; (try with_reducible rfl))
  try simp only [Act.put, List.setIfInBounds_toArray, List.set_cons_zero, List.set_cons_succ]
  refine wpAnyH_take (i := 2) (v := ?z3) (by simp; rfl) (by kernel_rfl) (by kernel_rfl) (by kernel_rfl) (by exact fun _ _ _ h => h) (Or.inl ⟨by rfl, ?yz3⟩) hHeld ?_
  case yz3 => (intro wx hSw; have hSx := Ex1.mk hSw; go_simp; (try with_reducible rfl))
  try simp only [Act.put, List.setIfInBounds_toArray, List.set_cons_zero, List.set_cons_succ]
  refine wpAnyH_take (i := 3) (v := ?z4) (by simp; rfl) (by kernel_rfl) (by kernel_rfl) (by kernel_rfl) (by exact fun _ _ _ h => h) (Or.inl ⟨by rfl, ?yz4⟩) hHeld ?_
  case yz4 => (intro wx hSw; have hSx := Ex1.mk hSw; go_simp; (try with_reducible rfl))
  try simp only [Act.put, List.setIfInBounds_toArray, List.set_cons_zero, List.set_cons_succ]
  refine wpAnyH_take (i := 4) (v := ?z5) (by simp; rfl) (by kernel_rfl) (by kernel_rfl) (by kernel_rfl) (by exact fun _ _ _ h => h) (Or.inl ⟨by rfl, ?yz5⟩) hHeld ?_
  case yz5 => (intro wx hSw; have hSx := Ex1.mk hSw; go_simp; (try with_reducible rfl))
  try simp only [Act.put, List.setIfInBounds_toArray, List.set_cons_zero, List.set_cons_succ]
  refine wpAnyH_take (i := 5) (v := ?z6) (by simp; rfl) (by kernel_rfl) (by kernel_rfl) (by kernel_rfl) (by exact fun _ _ _ h => h) (Or.inl ⟨by rfl, ?yz6⟩) hHeld ?_
  case yz6 => (intro wx hSw; have hSx := Ex1.mk hSw; go_simp; (try with_reducible rfl))
  try simp only [Act.put, List.setIfInBounds_toArray, List.set_cons_zero, List.set_cons_succ]
  refine wpAnyH_take (i := 6) (v := ?z7) (by simp; rfl) (by kernel_rfl) (by kernel_rfl) (by kernel_rfl) (by exact fun _ _ _ h => h) (Or.inl ⟨by rfl, ?yz7⟩) hHeld ?_
  case yz7 => (intro wx hSw; have hSx := Ex1.mk hSw; go_simp; (try with_reducible rfl))
  try simp only [Act.put, List.setIfInBounds_toArray, List.set_cons_zero, List.set_cons_succ]
  refine wpAnyH_take (i := 7) (v := ?z8) (by simp; rfl) (by kernel_rfl) (by kernel_rfl) (by kernel_rfl) (by exact fun _ _ _ h => h) (Or.inl ⟨by rfl, ?yz8⟩) hHeld ?_
  case yz8 => (intro wx hSw; have hSx := Ex1.mk hSw; go_simp; (try with_reducible rfl))
  try simp only [Act.put, List.setIfInBounds_toArray, List.set_cons_zero, List.set_cons_succ]
  refine wpAnyH_take (i := 8) (v := ?z9) (by simp; rfl) (by kernel_rfl) (by kernel_rfl) (by kernel_rfl) (by exact fun _ _ _ h => h) (Or.inl ⟨by rfl, ?yz9⟩) hHeld ?_
  case yz9 => (intro wx hSw; have hSx := Ex1.mk hSw; go_simp; (try with_reducible rfl))
  try simp only [Act.put, List.setIfInBounds_toArray, List.set_cons_zero, List.set_cons_succ]
  refine wpAnyH_ready (rs := [9]) (by kernel_rfl) (by simp) ?_
  refine AllReadyH.cons (by simp; rfl) (fun K hK => ?_) AllReadyH.nil
  go_simp
  refine hK.out _ _ inferInstance ?_
  clear hHeld hK K
  intro hHeld
  try simp only [Act.put, List.setIfInBounds_toArray, List.set_cons_zero, List.set_cons_succ]
  refine wpAnyH_ready (rs := [10]) (by kernel_rfl) (by simp) ?_
  refine AllReadyH.cons (by simp; rfl) (fun K hK => ?_) AllReadyH.nil
  go_simp
  refine hK.out _ _ inferInstance ?_
  clear hHeld hK K
  intro hHeld
  try simp only [Act.put, List.setIfInBounds_toArray, List.set_cons_zero, List.set_cons_succ]
  refine wpAnyH_done (by kernel_rfl) ?_ _
  clear hHeld
  go_wp2_with fail
  by_cases hlt : p' < s.size
  · have hix := ix_str s p' hlt
    have hne : ((p' : Int) == (s.size : Int)) = false := by rw [beq_eq_false_iff_ne]; omega
    have HT := Lib.hid hT
    have HL := Lib.hid hlt
    obtain ⟨v, hv⟩ : ∃ v, cls (byteAt s p') = v := ⟨_, rfl⟩
    have hc := cls_tok (g6 hlt).1 (g6 hlt).2.1 (g6 hlt).2.2
    have HN := Lib.hid (g6 hlt)
    rw [hv] at hc
    have HV := Lib.hid hv
    clear hv hT g6
    refine region_cls (by kernel_rfl) [] (fun hHeld => ?_)
    refine wpAnyH_take (i := 0) (v := ?z10) (by simp; rfl) (by kernel_rfl) (by kernel_rfl) (by kernel_rfl) (by exact fun _ _ _ h => h) (Or.inl ⟨by rfl, ?yz10⟩) hHeld ?_
    case yz10 => (intro wx hSw; have hSx := Ex1.mk hSw; go_simp; (try with_reducible rfl))
    try simp only [Act.put, List.setIfInBounds_toArray, List.set_cons_zero, List.set_cons_succ]
    refine wpAnyH_take (i := 1) (v := ?z11) (by simp; rfl) (by kernel_rfl) (by kernel_rfl) (by kernel_rfl) (by exact fun _ _ _ h => h) (Or.inl ⟨by rfl, ?yz11⟩) hHeld ?_
    case yz11 => (intro wx hSw; have hSx := Ex1.mk hSw; go_simp; (try with_reducible rfl))
    try simp only [Act.put, List.setIfInBounds_toArray, List.set_cons_zero, List.set_cons_succ]
    refine wpAnyH_take (i := 2) (v := ?z12) (by simp; rfl) (by kernel_rfl) (by kernel_rfl) (by kernel_rfl) (by exact fun _ _ _ h => h) (Or.inl ⟨by rfl, ?yz12⟩) hHeld ?_
    case yz12 => (intro wx hSw; have hSx := Ex1.mk hSw; go_simp; (try with_reducible rfl))
    try simp only [Act.put, List.setIfInBounds_toArray, List.set_cons_zero, List.set_cons_succ]
    refine wpAnyH_take (i := 3) (v := ?z13) (by simp; rfl) (by kernel_rfl) (by kernel_rfl) (by kernel_rfl) (by exact fun _ _ _ h => h) (Or.inl ⟨by rfl, ?yz13⟩) hHeld ?_
    case yz13 => (intro wx hSw; have hSx := Ex1.mk hSw; go_simp; (try with_reducible rfl))
    try simp only [Act.put, List.setIfInBounds_toArray, List.set_cons_zero, List.set_cons_succ]
    refine wpAnyH_take (i := 4) (v := ?z14) (by simp; rfl) (by kernel_rfl) (by kernel_rfl) (by kernel_rfl) (by exact fun _ _ _ h => h) (Or.inl ⟨by rfl, ?yz14⟩) hHeld ?_
    case yz14 => (intro wx hSw; have hSx := Ex1.mk hSw; go_simp; (try with_reducible rfl))
    try simp only [Act.put, List.setIfInBounds_toArray, List.set_cons_zero, List.set_cons_succ]
    refine wpAnyH_take (i := 5) (v := ?z15) (by simp; rfl) (by kernel_rfl) (by kernel_rfl) (by kernel_rfl) (by exact fun _ _ _ h => h) (Or.inl ⟨by rfl, ?yz15⟩) hHeld ?_
    case yz15 => (intro wx hSw; have hSx := Ex1.mk hSw; go_simp; (try with_reducible rfl))
    try simp only [Act.put, List.setIfInBounds_toArray, List.set_cons_zero, List.set_cons_succ]
    refine wpAnyH_take (i := 6) (v := ?z16) (by simp; rfl) (by kernel_rfl) (by kernel_rfl) (by kernel_rfl) (by exact fun _ _ _ h => h) (Or.inl ⟨by rfl, ?yz16⟩) hHeld ?_
    case yz16 => (intro wx hSw; have hSx := Ex1.mk hSw; go_simp; (try with_reducible rfl))
    try simp only [Act.put, List.setIfInBounds_toArray, List.set_cons_zero, List.set_cons_succ]
    refine wpAnyH_take (i := 7) (v := ?z17) (by simp; rfl) (by kernel_rfl) (by kernel_rfl) (by kernel_rfl) (by exact fun _ _ _ h => h) (Or.inl ⟨by rfl, ?yz17⟩) hHeld ?_
    case yz17 => (intro wx hSw; have hSx := Ex1.mk hSw; go_simp; (try with_reducible rfl))
    try simp only [Act.put, List.setIfInBounds_toArray, List.set_cons_zero, List.set_cons_succ]
    refine wpAnyH_take (i := 8) (v := ?z18) (by simp; rfl) (by kernel_rfl) (by kernel_rfl) (by kernel_rfl) (by exact fun _ _ _ h => h) (Or.inl ⟨by rfl, ?yz18⟩) hHeld ?_
    case yz18 => (intro wx hSw; have hSx := Ex1.mk hSw; go_simp; (try with_reducible rfl))
    try simp only [Act.put, List.setIfInBounds_toArray, List.set_cons_zero, List.set_cons_succ]
    refine wpAnyH_take (i := 9) (v := ?z19) (by simp; rfl) (by kernel_rfl) (by kernel_rfl) (by kernel_rfl) (by exact fun _ _ _ h => h) (Or.inl ⟨by rfl, ?yz19⟩) hHeld ?_
    case yz19 => (intro wx hSw; have hSx := Ex1.mk hSw; go_simp; (try with_reducible rfl))
    try simp only [Act.put, List.setIfInBounds_toArray, List.set_cons_zero, List.set_cons_succ]
    refine wpAnyH_done (by kernel_rfl) ?_ _
    clear hHeld
    go_wp2_with fail
    refine region_cls (by kernel_rfl) [] (fun hHeld => ?_)
    refine wpAnyH_take (i := 0) (v := ?z20) (by simp; rfl) (by kernel_rfl) (by kernel_rfl) (by kernel_rfl) (by exact fun _ _ _ h => h) (Or.inl ⟨by rfl, ?yz20⟩) hHeld ?_
    case yz20 => (intro wx hSw; have hSx := Ex1.mk hSw; go_simp; (try with_reducible rfl))
    try simp only [Act.put, List.setIfInBounds_toArray, List.set_cons_zero, List.set_cons_succ]
    refine wpAnyH_take (i := 1) (v := ?z21) (by simp; rfl) (by kernel_rfl) (by kernel_rfl) (by kernel_rfl) (by exact fun _ _ _ h => h) (Or.inl ⟨by rfl, ?yz21⟩) hHeld ?_
    case yz21 => (intro wx hSw; have hSx := Ex1.mk hSw; go_simp; (try with_reducible rfl))
    try simp only [Act.put, List.setIfInBounds_toArray, List.set_cons_zero, List.set_cons_succ]
    refine wpAnyH_take (i := 2) (v := ?z22) (by simp; rfl) (by kernel_rfl) (by kernel_rfl) (by kernel_rfl) (by exact fun _ _ _ h => h) (Or.inl ⟨by rfl, ?yz22⟩) hHeld ?_
    case yz22 => (intro wx hSw; have hSx := Ex1.mk hSw; go_simp; (try with_reducible rfl))
    try simp only [Act.put, List.setIfInBounds_toArray, List.set_cons_zero, List.set_cons_succ]
    refine wpAnyH_take (i := 3) (v := ?z23) (by simp; rfl) (by kernel_rfl) (by kernel_rfl) (by kernel_rfl) (by exact fun _ _ _ h => h) (Or.inl ⟨by rfl, ?yz23⟩) hHeld ?_
    case yz23 => (intro wx hSw; have hSx := Ex1.mk hSw; go_simp; (try with_reducible rfl))
    try simp only [Act.put, List.setIfInBounds_toArray, List.set_cons_zero, List.set_cons_succ]
    refine wpAnyH_take (i := 4) (v := ?z24) (by simp; rfl) (by kernel_rfl) (by kernel_rfl) (by kernel_rfl) (by exact fun _ _ _ h => h) (Or.inl ⟨by rfl, ?yz24⟩) hHeld ?_
    case yz24 => (intro wx hSw; have hSx := Ex1.mk hSw; go_simp; (try with_reducible rfl))
    try simp only [Act.put, List.setIfInBounds_toArray, List.set_cons_zero, List.set_cons_succ]
    refine wpAnyH_take (i := 5) (v := ?z25) (by simp; rfl) (by kernel_rfl) (by kernel_rfl) (by kernel_rfl) (by exact fun _ _ _ h => h) (Or.inl ⟨by rfl, ?yz25⟩) hHeld ?_
    case yz25 => (intro wx hSw; have hSx := Ex1.mk hSw; go_simp; (try with_reducible rfl))
    try simp only [Act.put, List.setIfInBounds_toArray, List.set_cons_zero, List.set_cons_succ]
    refine wpAnyH_take (i := 6) (v := ?z26) (by simp; rfl) (by kernel_rfl) (by kernel_rfl) (by kernel_rfl) (by exact fun _ _ _ h => h) (Or.inl ⟨by rfl, ?yz26⟩) hHeld ?_
    case yz26 => (intro wx hSw; have hSx := Ex1.mk hSw; go_simp; (try with_reducible rfl))
    try simp only [Act.put, List.setIfInBounds_toArray, List.set_cons_zero, List.set_cons_succ]
    refine wpAnyH_take (i := 7) (v := ?z27) (by simp; rfl) (by kernel_rfl) (by kernel_rfl) (by kernel_rfl) (by exact fun _ _ _ h => h) (Or.inl ⟨by rfl, ?yz27⟩) hHeld ?_
    case yz27 => (intro wx hSw; have hSx := Ex1.mk hSw; go_simp; (try with_reducible rfl))
    try simp only [Act.put, List.setIfInBounds_toArray, List.set_cons_zero, List.set_cons_succ]
    refine wpAnyH_take (i := 8) (v := ?z28) (by simp; rfl) (by kernel_rfl) (by kernel_rfl) (by kernel_rfl) (by exact fun _ _ _ h => h) (Or.inl ⟨by rfl, ?yz28⟩) hHeld ?_
    case yz28 => (intro wx hSw; have hSx := Ex1.mk hSw; go_simp; (try with_reducible rfl))
    try simp only [Act.put, List.setIfInBounds_toArray, List.set_cons_zero, List.set_cons_succ]
    refine wpAnyH_ready (rs := [9]) (by kernel_rfl) (by simp) ?_
    refine AllReadyH.cons (by simp; rfl) (fun K hK => ?_) AllReadyH.nil
    go_simp
    (go_at_call 22; (with_reducible refine Calls.cS (classOfV HV) ?_); intros)
    refine hK.out _ _ inferInstance ?_
    clear hHeld hK K
    intro hHeld
    try simp only [Act.put, List.setIfInBounds_toArray, List.set_cons_zero, List.set_cons_succ]
    refine wpAnyH_done (by kernel_rfl) ?_ _
    clear hHeld
    clear HV
    rcases hc with ⟨ha, rfl⟩ | ⟨ha, rfl⟩ | ⟨ha, rfl⟩ | ⟨ha, rfl⟩
    · obtain ⟨q, hq⟩ : ∃ q, runL isWd (s.data.toList.drop p') = q := ⟨_, rfl⟩
      have HQ := Lib.hid hq
      have hT := tk_lt HL.out (n := l') (c := c') ha hq
      have hqp : 1 ≤ q := by have := run_step HL.out (p := isWd) (by simp [isWd, ha]); omega
      have hqs : p' + q ≤ s.size := by have := @run_le isWd s p'; have := HL.out; omega
      obtain ⟨T, hTk⟩ : ∃ T, (s.data.toList.drop p').take q = T := ⟨_, rfl⟩
      have hTl : T.length = q := by rw [← hTk, List.length_take, List.length_drop, ← str_len]; omega
      have hTs : (ByteArray.mk T.toArray).size = q := hTl
      rw [hTk] at hT
      have HK := Lib.hid hTk
      clear hq hTk ha
      by_cases hm : 24 < q
      · have HE := Lib.hid (HT.out.trans (hT.trans (if_pos hm)))
        have hm' : (24 : Int) < q := by omega
        clear hT
        go_wp2_with (first | (go_at_call 34; (with_reducible refine Calls.cE (runV2 ⟨by omega, by omega⟩ HQ) ?_); intros) | (go_at_call 33; (with_reducible refine Calls.cRd (takeV ⟨by omega, by omega, by omega⟩ HK) ?_); intros))
        refine region_cls (by kernel_rfl) [w.heap.size] (fun hHeld => ?_)
        refine wpAnyH_take (i := 0) (v := ?z29) (by simp; rfl) (by kernel_rfl) (by kernel_rfl) (by kernel_rfl) (by exact fun _ _ _ h => h) (Or.inl ⟨by rfl, ?yz29⟩) hHeld ?_
        case yz29 => (intro wx hSw; have hSx := Ex1.mk hSw; go_simp; (try with_reducible rfl))
        try simp only [Act.put, List.setIfInBounds_toArray, List.set_cons_zero, List.set_cons_succ]
        refine wpAnyH_take (i := 1) (v := ?z30) (by simp; rfl) (by kernel_rfl) (by kernel_rfl) (by kernel_rfl) (by exact fun _ _ _ h => h) (Or.inl ⟨by rfl, ?yz30⟩) hHeld ?_
        case yz30 => (intro wx hSw; have hSx := Ex1.mk hSw; go_simp; (try with_reducible rfl))
        try simp only [Act.put, List.setIfInBounds_toArray, List.set_cons_zero, List.set_cons_succ]
        refine wpAnyH_take (i := 2) (v := ?z31) (by simp; rfl) (by kernel_rfl) (by kernel_rfl) (by kernel_rfl) (by exact fun _ _ _ h => h) (Or.inl ⟨by rfl, ?yz31⟩) hHeld ?_
        case yz31 => (intro wx hSw; have hSx := Ex1.mk hSw; go_simp; (try with_reducible rfl))
        try simp only [Act.put, List.setIfInBounds_toArray, List.set_cons_zero, List.set_cons_succ]
        refine wpAnyH_take (i := 3) (v := ?z32) (by simp; rfl) (by kernel_rfl) (by kernel_rfl) (by kernel_rfl) (by exact fun _ _ _ h => h) (Or.inl ⟨by rfl, ?yz32⟩) hHeld ?_
        case yz32 => (intro wx hSw; have hSx := Ex1.mk hSw; go_simp; (try with_reducible rfl))
        try simp only [Act.put, List.setIfInBounds_toArray, List.set_cons_zero, List.set_cons_succ]
        refine wpAnyH_take (i := 4) (v := ?z33) (by simp; rfl) (by kernel_rfl) (by kernel_rfl) (by kernel_rfl) (by exact fun _ _ _ h => h) (Or.inl ⟨by rfl, ?yz33⟩) hHeld ?_
        case yz33 => (intro wx hSw; have hSx := Ex1.mk hSw; go_simp; (try with_reducible rfl))
        try simp only [Act.put, List.setIfInBounds_toArray, List.set_cons_zero, List.set_cons_succ]
        refine wpAnyH_take (i := 5) (v := ?z34) (by simp; rfl) (by kernel_rfl) (by kernel_rfl) (by kernel_rfl) (by exact fun _ _ _ h => h) (Or.inl ⟨by rfl, ?yz34⟩) hHeld ?_
        case yz34 => (intro wx hSw; have hSx := Ex1.mk hSw; go_simp; (try with_reducible rfl))
        try simp only [Act.put, List.setIfInBounds_toArray, List.set_cons_zero, List.set_cons_succ]
        refine wpAnyH_take (i := 6) (v := ?z35) (by simp; rfl) (by kernel_rfl) (by kernel_rfl) (by kernel_rfl) (by exact fun _ _ _ h => h) (Or.inl ⟨by rfl, ?yz35⟩) hHeld ?_
        case yz35 => (intro wx hSw; have hSx := Ex1.mk hSw; go_simp; (try with_reducible rfl))
        try simp only [Act.put, List.setIfInBounds_toArray, List.set_cons_zero, List.set_cons_succ]
        refine wpAnyH_take (i := 7) (v := ?z36) (by simp; rfl) (by kernel_rfl) (by kernel_rfl) (by kernel_rfl) (by exact fun _ _ _ h => h) (Or.inl ⟨by rfl, ?yz36⟩) hHeld ?_
        case yz36 => (intro wx hSw; have hSx := Ex1.mk hSw; go_simp; (try with_reducible rfl))
        try simp only [Act.put, List.setIfInBounds_toArray, List.set_cons_zero, List.set_cons_succ]
        refine wpAnyH_take (i := 8) (v := ?z37) (by simp; rfl) (by kernel_rfl) (by kernel_rfl) (by kernel_rfl) (by exact fun _ _ _ h => h) (Or.inl ⟨by rfl, ?yz37⟩) hHeld ?_
        case yz37 => (intro wx hSw; have hSx := Ex1.mk hSw; go_simp; (try with_reducible rfl))
        try simp only [Act.put, List.setIfInBounds_toArray, List.set_cons_zero, List.set_cons_succ]
        refine wpAnyH_ready (rs := [9, 11]) (by kernel_rfl) (by simp) ?_
        refine AllReadyH.cons (by simp; rfl) (fun K hK => ?_) (AllReadyH.cons (by simp; rfl) (fun K hK => ?_) AllReadyH.nil)
        go_simp
        refine hK.out _ _ inferInstance ?_
        clear hHeld hK K
        intro hHeld
        try simp only [Act.put, List.setIfInBounds_toArray, List.set_cons_zero, List.set_cons_succ]
        refine wpAnyH_take (i := 10) (v := ?z38) (by simp; rfl) (by kernel_rfl) (by kernel_rfl) (by kernel_rfl) (by exact fun _ _ _ h => h) (Or.inl ⟨by rfl, ?yz38⟩) hHeld ?_
        case yz38 => (intro wx hSw; have hSx := Ex1.mk hSw; go_simp; (try with_reducible rfl))
        try simp only [Act.put, List.setIfInBounds_toArray, List.set_cons_zero, List.set_cons_succ]
        refine wpAnyH_ready (rs := [11]) (by kernel_rfl) (by simp) ?_
        refine AllReadyH.cons (by simp; rfl) (fun K hK => ?_) AllReadyH.nil
        go_simp
        refine hK.out _ _ inferInstance ?_
        clear hHeld hK K
        intro hHeld
        try simp only [Act.put, List.setIfInBounds_toArray, List.set_cons_zero, List.set_cons_succ]
        refine wpAnyH_take (i := 12) (v := ?z39) (by simp; rfl) (by kernel_rfl) (by kernel_rfl) (by kernel_rfl) (by exact fun _ _ _ h => h) (Or.inl ⟨by rfl, ?yz39⟩) hHeld ?_
        case yz39 => (intro wx hSw; have hSx := Ex1.mk hSw; go_simp; (try with_reducible rfl))
        try simp only [Act.put, List.setIfInBounds_toArray, List.set_cons_zero, List.set_cons_succ]
        refine wpAnyH_done (by kernel_rfl) ?_ _
        clear hHeld
        go_wp2_with fail
        refine ret_bt rfl Tryd.underlying36 rfl (by kernel_rfl) rfl rfl rfl ?_
        refine ⟨(inferInstance : Gb w _ r).out, .inr (.inr ⟨2, l', c', T, _, .inr rfl, HE.out, ?_, ?_, rfl⟩)⟩
        · exact Bx.re rfl
        · exact (inferInstance : Gg w _).out
        go_simp
        refine hK.out _ _ inferInstance ?_
        clear hHeld hK K
        intro hHeld
        try simp only [Act.put, List.setIfInBounds_toArray, List.set_cons_zero, List.set_cons_succ]
        refine wpAnyH_ready (rs := [9]) (by kernel_rfl) (by simp) ?_
        refine AllReadyH.cons (by simp; rfl) (fun K hK => ?_) AllReadyH.nil
        go_simp
        refine hK.out _ _ inferInstance ?_
        clear hHeld hK K
        intro hHeld
        try simp only [Act.put, List.setIfInBounds_toArray, List.set_cons_zero, List.set_cons_succ]
        refine wpAnyH_take (i := 10) (v := ?z40) (by simp; rfl) (by kernel_rfl) (by kernel_rfl) (by kernel_rfl) (by exact fun _ _ _ h => h) (Or.inl ⟨by rfl, ?yz40⟩) hHeld ?_
        case yz40 => (intro wx hSw; have hSx := Ex1.mk hSw; go_simp; (try with_reducible rfl))
        try simp only [Act.put, List.setIfInBounds_toArray, List.set_cons_zero, List.set_cons_succ]
        refine wpAnyH_take (i := 12) (v := ?z41) (by simp; rfl) (by kernel_rfl) (by kernel_rfl) (by kernel_rfl) (by exact fun _ _ _ h => h) (Or.inl ⟨by rfl, ?yz41⟩) hHeld ?_
        case yz41 => (intro wx hSw; have hSx := Ex1.mk hSw; go_simp; (try with_reducible rfl))
        try simp only [Act.put, List.setIfInBounds_toArray, List.set_cons_zero, List.set_cons_succ]
        refine wpAnyH_done (by kernel_rfl) ?_ _
        clear hHeld
        go_wp2_with fail
        refine ret_bt rfl Tryd.underlying36 rfl (by kernel_rfl) rfl rfl rfl ?_
        refine ⟨(inferInstance : Gb w _ r).out, .inr (.inr ⟨2, l', c', T, _, .inr rfl, HE.out, ?_, ?_, rfl⟩)⟩
        · exact Bx.re rfl
        · exact (inferInstance : Gg w _).out
      · have HE := Lib.hid (HT.out.trans (hT.trans (if_neg hm)))
        have hm' : (q : Int) ≤ 24 := by omega
        clear hT
        go_wp2_with (first | (go_at_call 34; (with_reducible refine Calls.cE (runV2 ⟨by omega, by omega⟩ HQ) ?_); intros) | (go_at_call 33; (with_reducible refine Calls.cRd (takeV ⟨by omega, by omega, by omega⟩ HK) ?_); intros))
        refine ret_bt rfl Tryd.underlying36 rfl (by kernel_rfl) rfl rfl rfl ?_
        exact ⟨(inferInstance : Gb w _ r).out, .inr (.inl ⟨⟨1, T, l', c'⟩, p' + q, l', c' + q, HE.out, (show (1 : Nat) ≠ 0 by decide), by omega, by omega, by omega, by omega, by omega, Bx.re rfl, rfl⟩)⟩
    · obtain ⟨q, hq⟩ : ∃ q, runL isDg (s.data.toList.drop p') = q := ⟨_, rfl⟩
      have HQ := Lib.hid hq
      have hT := tk_dg HL.out (n := l') (c := c') ha hq
      have hqp : 1 ≤ q := by have := run_step HL.out (p := isDg) (by exact ha); omega
      have hqs : p' + q ≤ s.size := by have := @run_le isDg s p'; have := HL.out; omega
      obtain ⟨T, hTk⟩ : ∃ T, (s.data.toList.drop p').take q = T := ⟨_, rfl⟩
      have hTl : T.length = q := by rw [← hTk, List.length_take, List.length_drop, ← str_len]; omega
      have hTs : (ByteArray.mk T.toArray).size = q := hTl
      rw [hTk] at hT
      have HK := Lib.hid hTk
      clear hq hTk ha
      by_cases hm : 4096 < q
      · have HE := Lib.hid (HT.out.trans (hT.trans (if_pos hm)))
        have hm' : (4096 : Int) < q := by omega
        clear hT
        go_wp2_with (first | (go_at_call 34; (with_reducible refine Calls.cE (runV1 ⟨by omega, by omega⟩ HQ) ?_); intros) | (go_at_call 33; (with_reducible refine Calls.cRd (takeV ⟨by omega, by omega, by omega⟩ HK) ?_); intros))
        refine region_cls (by kernel_rfl) [w.heap.size] (fun hHeld => ?_)
        refine wpAnyH_take (i := 0) (v := ?z42) (by simp; rfl) (by kernel_rfl) (by kernel_rfl) (by kernel_rfl) (by exact fun _ _ _ h => h) (Or.inl ⟨by rfl, ?yz42⟩) hHeld ?_
        case yz42 => (intro wx hSw; have hSx := Ex1.mk hSw; go_simp; (try with_reducible rfl))
        try simp only [Act.put, List.setIfInBounds_toArray, List.set_cons_zero, List.set_cons_succ]
        refine wpAnyH_take (i := 1) (v := ?z43) (by simp; rfl) (by kernel_rfl) (by kernel_rfl) (by kernel_rfl) (by exact fun _ _ _ h => h) (Or.inl ⟨by rfl, ?yz43⟩) hHeld ?_
        case yz43 => (intro wx hSw; have hSx := Ex1.mk hSw; go_simp; (try with_reducible rfl))
        try simp only [Act.put, List.setIfInBounds_toArray, List.set_cons_zero, List.set_cons_succ]
        refine wpAnyH_take (i := 2) (v := ?z44) (by simp; rfl) (by kernel_rfl) (by kernel_rfl) (by kernel_rfl) (by exact fun _ _ _ h => h) (Or.inl ⟨by rfl, ?yz44⟩) hHeld ?_
        case yz44 => (intro wx hSw; have hSx := Ex1.mk hSw; go_simp; (try with_reducible rfl))
        try simp only [Act.put, List.setIfInBounds_toArray, List.set_cons_zero, List.set_cons_succ]
        refine wpAnyH_take (i := 3) (v := ?z45) (by simp; rfl) (by kernel_rfl) (by kernel_rfl) (by kernel_rfl) (by exact fun _ _ _ h => h) (Or.inl ⟨by rfl, ?yz45⟩) hHeld ?_
        case yz45 => (intro wx hSw; have hSx := Ex1.mk hSw; go_simp; (try with_reducible rfl))
        try simp only [Act.put, List.setIfInBounds_toArray, List.set_cons_zero, List.set_cons_succ]
        refine wpAnyH_take (i := 4) (v := ?z46) (by simp; rfl) (by kernel_rfl) (by kernel_rfl) (by kernel_rfl) (by exact fun _ _ _ h => h) (Or.inl ⟨by rfl, ?yz46⟩) hHeld ?_
        case yz46 => (intro wx hSw; have hSx := Ex1.mk hSw; go_simp; (try with_reducible rfl))
        try simp only [Act.put, List.setIfInBounds_toArray, List.set_cons_zero, List.set_cons_succ]
        refine wpAnyH_take (i := 5) (v := ?z47) (by simp; rfl) (by kernel_rfl) (by kernel_rfl) (by kernel_rfl) (by exact fun _ _ _ h => h) (Or.inl ⟨by rfl, ?yz47⟩) hHeld ?_
        case yz47 => (intro wx hSw; have hSx := Ex1.mk hSw; go_simp; (try with_reducible rfl))
        try simp only [Act.put, List.setIfInBounds_toArray, List.set_cons_zero, List.set_cons_succ]
        refine wpAnyH_take (i := 6) (v := ?z48) (by simp; rfl) (by kernel_rfl) (by kernel_rfl) (by kernel_rfl) (by exact fun _ _ _ h => h) (Or.inl ⟨by rfl, ?yz48⟩) hHeld ?_
        case yz48 => (intro wx hSw; have hSx := Ex1.mk hSw; go_simp; (try with_reducible rfl))
        try simp only [Act.put, List.setIfInBounds_toArray, List.set_cons_zero, List.set_cons_succ]
        refine wpAnyH_take (i := 7) (v := ?z49) (by simp; rfl) (by kernel_rfl) (by kernel_rfl) (by kernel_rfl) (by exact fun _ _ _ h => h) (Or.inl ⟨by rfl, ?yz49⟩) hHeld ?_
        case yz49 => (intro wx hSw; have hSx := Ex1.mk hSw; go_simp; (try with_reducible rfl))
        try simp only [Act.put, List.setIfInBounds_toArray, List.set_cons_zero, List.set_cons_succ]
        refine wpAnyH_take (i := 8) (v := ?z50) (by simp; rfl) (by kernel_rfl) (by kernel_rfl) (by kernel_rfl) (by exact fun _ _ _ h => h) (Or.inl ⟨by rfl, ?yz50⟩) hHeld ?_
        case yz50 => (intro wx hSw; have hSx := Ex1.mk hSw; go_simp; (try with_reducible rfl))
        try simp only [Act.put, List.setIfInBounds_toArray, List.set_cons_zero, List.set_cons_succ]
        refine wpAnyH_ready (rs := [9, 11]) (by kernel_rfl) (by simp) ?_
        refine AllReadyH.cons (by simp; rfl) (fun K hK => ?_) (AllReadyH.cons (by simp; rfl) (fun K hK => ?_) AllReadyH.nil)
        go_simp
        refine hK.out _ _ inferInstance ?_
        clear hHeld hK K
        intro hHeld
        try simp only [Act.put, List.setIfInBounds_toArray, List.set_cons_zero, List.set_cons_succ]
        refine wpAnyH_take (i := 10) (v := ?z51) (by simp; rfl) (by kernel_rfl) (by kernel_rfl) (by kernel_rfl) (by exact fun _ _ _ h => h) (Or.inl ⟨by rfl, ?yz51⟩) hHeld ?_
        case yz51 => (intro wx hSw; have hSx := Ex1.mk hSw; go_simp; (try with_reducible rfl))
        try simp only [Act.put, List.setIfInBounds_toArray, List.set_cons_zero, List.set_cons_succ]
        refine wpAnyH_ready (rs := [11]) (by kernel_rfl) (by simp) ?_
        refine AllReadyH.cons (by simp; rfl) (fun K hK => ?_) AllReadyH.nil
        go_simp
        refine hK.out _ _ inferInstance ?_
        clear hHeld hK K
        intro hHeld
        try simp only [Act.put, List.setIfInBounds_toArray, List.set_cons_zero, List.set_cons_succ]
        refine wpAnyH_take (i := 12) (v := ?z52) (by simp; rfl) (by kernel_rfl) (by kernel_rfl) (by kernel_rfl) (by exact fun _ _ _ h => h) (Or.inl ⟨by rfl, ?yz52⟩) hHeld ?_
        case yz52 => (intro wx hSw; have hSx := Ex1.mk hSw; go_simp; (try with_reducible rfl))
        try simp only [Act.put, List.setIfInBounds_toArray, List.set_cons_zero, List.set_cons_succ]
        refine wpAnyH_done (by kernel_rfl) ?_ _
        clear hHeld
        go_wp2_with fail
        refine ret_bt rfl Tryd.underlying36 rfl (by kernel_rfl) rfl rfl rfl ?_
        refine ⟨(inferInstance : Gb w _ r).out, .inr (.inr ⟨2, l', c', T, _, .inr rfl, HE.out, ?_, ?_, rfl⟩)⟩
        · exact Bx.re rfl
        · exact (inferInstance : Gg w _).out
        go_simp
        refine hK.out _ _ inferInstance ?_
        clear hHeld hK K
        intro hHeld
        try simp only [Act.put, List.setIfInBounds_toArray, List.set_cons_zero, List.set_cons_succ]
        refine wpAnyH_ready (rs := [9]) (by kernel_rfl) (by simp) ?_
        refine AllReadyH.cons (by simp; rfl) (fun K hK => ?_) AllReadyH.nil
        go_simp
        refine hK.out _ _ inferInstance ?_
        clear hHeld hK K
        intro hHeld
        try simp only [Act.put, List.setIfInBounds_toArray, List.set_cons_zero, List.set_cons_succ]
        refine wpAnyH_take (i := 10) (v := ?z53) (by simp; rfl) (by kernel_rfl) (by kernel_rfl) (by kernel_rfl) (by exact fun _ _ _ h => h) (Or.inl ⟨by rfl, ?yz53⟩) hHeld ?_
        case yz53 => (intro wx hSw; have hSx := Ex1.mk hSw; go_simp; (try with_reducible rfl))
        try simp only [Act.put, List.setIfInBounds_toArray, List.set_cons_zero, List.set_cons_succ]
        refine wpAnyH_take (i := 12) (v := ?z54) (by simp; rfl) (by kernel_rfl) (by kernel_rfl) (by kernel_rfl) (by exact fun _ _ _ h => h) (Or.inl ⟨by rfl, ?yz54⟩) hHeld ?_
        case yz54 => (intro wx hSw; have hSx := Ex1.mk hSw; go_simp; (try with_reducible rfl))
        try simp only [Act.put, List.setIfInBounds_toArray, List.set_cons_zero, List.set_cons_succ]
        refine wpAnyH_done (by kernel_rfl) ?_ _
        clear hHeld
        go_wp2_with fail
        refine ret_bt rfl Tryd.underlying36 rfl (by kernel_rfl) rfl rfl rfl ?_
        refine ⟨(inferInstance : Gb w _ r).out, .inr (.inr ⟨2, l', c', T, _, .inr rfl, HE.out, ?_, ?_, rfl⟩)⟩
        · exact Bx.re rfl
        · exact (inferInstance : Gg w _).out
      · have HE := Lib.hid (HT.out.trans (hT.trans (if_neg hm)))
        have hm' : (q : Int) ≤ 4096 := by omega
        clear hT
        go_wp2_with (first | (go_at_call 34; (with_reducible refine Calls.cE (runV1 ⟨by omega, by omega⟩ HQ) ?_); intros) | (go_at_call 33; (with_reducible refine Calls.cRd (takeV ⟨by omega, by omega, by omega⟩ HK) ?_); intros))
        refine ret_bt rfl Tryd.underlying36 rfl (by kernel_rfl) rfl rfl rfl ?_
        exact ⟨(inferInstance : Gb w _ r).out, .inr (.inl ⟨⟨2, T, l', c'⟩, p' + q, l', c' + q, HE.out, (show (2 : Nat) ≠ 0 by decide), by omega, by omega, by omega, by omega, by omega, Bx.re rfl, rfl⟩)⟩
    · have hT := tk_sg HL.out (n := l') (c := c') ha
      obtain ⟨T, hTk⟩ : ∃ T, (s.data.toList.drop p').take 1 = T := ⟨_, rfl⟩
      rw [hTk] at hT
      have HK := Lib.hid hTk
      have HE := Lib.hid (HT.out.trans hT)
      have hlt' := HL.out
      clear hTk hT ha
      go_wp2_with (first | (go_at_call 33; (with_reducible refine Calls.cRd (takeV1 ⟨by omega, by omega, by omega⟩ HK) ?_); intros))
      refine ret_bt rfl Tryd.underlying36 rfl (by kernel_rfl) rfl rfl rfl ?_
      exact ⟨(inferInstance : Gb w _ r).out, .inr (.inl ⟨⟨3, T, l', c'⟩, p' + 1, l', c' + 1, HE.out, (show (3 : Nat) ≠ 0 by decide), by omega, by omega, by omega, by omega, by omega, Bx.re rfl, rfl⟩)⟩
    · have hT := tk_ot HL.out (n := l') (c := c') HN.out.1 HN.out.2.1 HN.out.2.2 ha.1 ha.2.1 ha.2.2
      obtain ⟨T, hTk⟩ : ∃ T, (s.data.toList.drop p').take 1 = T := ⟨_, rfl⟩
      rw [hTk] at hT
      have HK := Lib.hid hTk
      have HE := Lib.hid (HT.out.trans hT)
      have hlt' := HL.out
      clear hTk hT ha
      go_wp2_with (first | (go_at_call 33; (with_reducible refine Calls.cRd (takeV1 ⟨by omega, by omega, by omega⟩ HK) ?_); intros))
      refine region_cls (by kernel_rfl) [w.heap.size] (fun hHeld => ?_)
      refine wpAnyH_take (i := 0) (v := ?z55) (by simp; rfl) (by kernel_rfl) (by kernel_rfl) (by kernel_rfl) (by exact fun _ _ _ h => h) (Or.inl ⟨by rfl, ?yz55⟩) hHeld ?_
      case yz55 => (intro wx hSw; have hSx := Ex1.mk hSw; go_simp; (try with_reducible rfl))
      try simp only [Act.put, List.setIfInBounds_toArray, List.set_cons_zero, List.set_cons_succ]
      refine wpAnyH_take (i := 1) (v := ?z56) (by simp; rfl) (by kernel_rfl) (by kernel_rfl) (by kernel_rfl) (by exact fun _ _ _ h => h) (Or.inl ⟨by rfl, ?yz56⟩) hHeld ?_
      case yz56 => (intro wx hSw; have hSx := Ex1.mk hSw; go_simp; (try with_reducible rfl))
      try simp only [Act.put, List.setIfInBounds_toArray, List.set_cons_zero, List.set_cons_succ]
      refine wpAnyH_take (i := 2) (v := ?z57) (by simp; rfl) (by kernel_rfl) (by kernel_rfl) (by kernel_rfl) (by exact fun _ _ _ h => h) (Or.inl ⟨by rfl, ?yz57⟩) hHeld ?_
      case yz57 => (intro wx hSw; have hSx := Ex1.mk hSw; go_simp; (try with_reducible rfl))
      try simp only [Act.put, List.setIfInBounds_toArray, List.set_cons_zero, List.set_cons_succ]
      refine wpAnyH_take (i := 3) (v := ?z58) (by simp; rfl) (by kernel_rfl) (by kernel_rfl) (by kernel_rfl) (by exact fun _ _ _ h => h) (Or.inl ⟨by rfl, ?yz58⟩) hHeld ?_
      case yz58 => (intro wx hSw; have hSx := Ex1.mk hSw; go_simp; (try with_reducible rfl))
      try simp only [Act.put, List.setIfInBounds_toArray, List.set_cons_zero, List.set_cons_succ]
      refine wpAnyH_take (i := 4) (v := ?z59) (by simp; rfl) (by kernel_rfl) (by kernel_rfl) (by kernel_rfl) (by exact fun _ _ _ h => h) (Or.inl ⟨by rfl, ?yz59⟩) hHeld ?_
      case yz59 => (intro wx hSw; have hSx := Ex1.mk hSw; go_simp; (try with_reducible rfl))
      try simp only [Act.put, List.setIfInBounds_toArray, List.set_cons_zero, List.set_cons_succ]
      refine wpAnyH_take (i := 5) (v := ?z60) (by simp; rfl) (by kernel_rfl) (by kernel_rfl) (by kernel_rfl) (by exact fun _ _ _ h => h) (Or.inl ⟨by rfl, ?yz60⟩) hHeld ?_
      case yz60 => (intro wx hSw; have hSx := Ex1.mk hSw; go_simp; (try with_reducible rfl))
      try simp only [Act.put, List.setIfInBounds_toArray, List.set_cons_zero, List.set_cons_succ]
      refine wpAnyH_take (i := 6) (v := ?z61) (by simp; rfl) (by kernel_rfl) (by kernel_rfl) (by kernel_rfl) (by exact fun _ _ _ h => h) (Or.inl ⟨by rfl, ?yz61⟩) hHeld ?_
      case yz61 => (intro wx hSw; have hSx := Ex1.mk hSw; go_simp; (try with_reducible rfl))
      try simp only [Act.put, List.setIfInBounds_toArray, List.set_cons_zero, List.set_cons_succ]
      refine wpAnyH_take (i := 7) (v := ?z62) (by simp; rfl) (by kernel_rfl) (by kernel_rfl) (by kernel_rfl) (by exact fun _ _ _ h => h) (Or.inl ⟨by rfl, ?yz62⟩) hHeld ?_
      case yz62 => (intro wx hSw; have hSx := Ex1.mk hSw; go_simp; (try with_reducible rfl))
      try simp only [Act.put, List.setIfInBounds_toArray, List.set_cons_zero, List.set_cons_succ]
      refine wpAnyH_take (i := 8) (v := ?z63) (by simp; rfl) (by kernel_rfl) (by kernel_rfl) (by kernel_rfl) (by exact fun _ _ _ h => h) (Or.inl ⟨by rfl, ?yz63⟩) hHeld ?_
      case yz63 => (intro wx hSw; have hSx := Ex1.mk hSw; go_simp; (try with_reducible rfl))
      try simp only [Act.put, List.setIfInBounds_toArray, List.set_cons_zero, List.set_cons_succ]
      refine wpAnyH_ready (rs := [9, 11]) (by kernel_rfl) (by simp) ?_
      refine AllReadyH.cons (by simp; rfl) (fun K hK => ?_) (AllReadyH.cons (by simp; rfl) (fun K hK => ?_) AllReadyH.nil)
      go_simp
      refine hK.out _ _ inferInstance ?_
      clear hHeld hK K
      intro hHeld
      try simp only [Act.put, List.setIfInBounds_toArray, List.set_cons_zero, List.set_cons_succ]
      refine wpAnyH_take (i := 10) (v := ?z64) (by simp; rfl) (by kernel_rfl) (by kernel_rfl) (by kernel_rfl) (by exact fun _ _ _ h => h) (Or.inl ⟨by rfl, ?yz64⟩) hHeld ?_
      case yz64 => (intro wx hSw; have hSx := Ex1.mk hSw; go_simp; (try with_reducible rfl))
      try simp only [Act.put, List.setIfInBounds_toArray, List.set_cons_zero, List.set_cons_succ]
      refine wpAnyH_ready (rs := [11]) (by kernel_rfl) (by simp) ?_
      refine AllReadyH.cons (by simp; rfl) (fun K hK => ?_) AllReadyH.nil
      go_simp
      refine hK.out _ _ inferInstance ?_
      clear hHeld hK K
      intro hHeld
      try simp only [Act.put, List.setIfInBounds_toArray, List.set_cons_zero, List.set_cons_succ]
      refine wpAnyH_take (i := 12) (v := ?z65) (by simp; rfl) (by kernel_rfl) (by kernel_rfl) (by kernel_rfl) (by exact fun _ _ _ h => h) (Or.inl ⟨by rfl, ?yz65⟩) hHeld ?_
      case yz65 => (intro wx hSw; have hSx := Ex1.mk hSw; go_simp; (try with_reducible rfl))
      try simp only [Act.put, List.setIfInBounds_toArray, List.set_cons_zero, List.set_cons_succ]
      refine wpAnyH_done (by kernel_rfl) ?_ _
      clear hHeld
      go_wp2_with fail
      refine ret_bt rfl Tryd.underlying36 rfl (by kernel_rfl) rfl rfl rfl ?_
      refine ⟨(inferInstance : Gb w _ r).out, .inr (.inr ⟨1, l', c', T, _, .inl rfl, HE.out, ?_, ?_, rfl⟩)⟩
      · exact Bx.re rfl
      · exact (inferInstance : Gg w _).out
      go_simp
      refine hK.out _ _ inferInstance ?_
      clear hHeld hK K
      intro hHeld
      try simp only [Act.put, List.setIfInBounds_toArray, List.set_cons_zero, List.set_cons_succ]
      refine wpAnyH_ready (rs := [9]) (by kernel_rfl) (by simp) ?_
      refine AllReadyH.cons (by simp; rfl) (fun K hK => ?_) AllReadyH.nil
      go_simp
      refine hK.out _ _ inferInstance ?_
      clear hHeld hK K
      intro hHeld
      try simp only [Act.put, List.setIfInBounds_toArray, List.set_cons_zero, List.set_cons_succ]
      refine wpAnyH_take (i := 10) (v := ?z66) (by simp; rfl) (by kernel_rfl) (by kernel_rfl) (by kernel_rfl) (by exact fun _ _ _ h => h) (Or.inl ⟨by rfl, ?yz66⟩) hHeld ?_
      case yz66 => (intro wx hSw; have hSx := Ex1.mk hSw; go_simp; (try with_reducible rfl))
      try simp only [Act.put, List.setIfInBounds_toArray, List.set_cons_zero, List.set_cons_succ]
      refine wpAnyH_take (i := 12) (v := ?z67) (by simp; rfl) (by kernel_rfl) (by kernel_rfl) (by kernel_rfl) (by exact fun _ _ _ h => h) (Or.inl ⟨by rfl, ?yz67⟩) hHeld ?_
      case yz67 => (intro wx hSw; have hSx := Ex1.mk hSw; go_simp; (try with_reducible rfl))
      try simp only [Act.put, List.setIfInBounds_toArray, List.set_cons_zero, List.set_cons_succ]
      refine wpAnyH_done (by kernel_rfl) ?_ _
      clear hHeld
      go_wp2_with fail
      refine ret_bt rfl Tryd.underlying36 rfl (by kernel_rfl) rfl rfl rfl ?_
      refine ⟨(inferInstance : Gb w _ r).out, .inr (.inr ⟨1, l', c', T, _, .inl rfl, HE.out, ?_, ?_, rfl⟩)⟩
      · exact Bx.re rfl
      · exact (inferInstance : Gg w _).out
  · have he : p' = s.size := by omega
    subst he
    have HT := Lib.hid (hT.trans tk_end)
    clear hT g6 hlt
    refine region_cls (by kernel_rfl) [] (fun hHeld => ?_)
    refine wpAnyH_take (i := 0) (v := ?z68) (by simp; rfl) (by kernel_rfl) (by kernel_rfl) (by kernel_rfl) (by exact fun _ _ _ h => h) (Or.inl ⟨by rfl, ?yz68⟩) hHeld ?_
    case yz68 => (intro wx hSw; have hSx := Ex1.mk hSw; go_simp; (try with_reducible rfl))
    try simp only [Act.put, List.setIfInBounds_toArray, List.set_cons_zero, List.set_cons_succ]
    refine wpAnyH_take (i := 1) (v := ?z69) (by simp; rfl) (by kernel_rfl) (by kernel_rfl) (by kernel_rfl) (by exact fun _ _ _ h => h) (Or.inl ⟨by rfl, ?yz69⟩) hHeld ?_
    case yz69 => (intro wx hSw; have hSx := Ex1.mk hSw; go_simp; (try with_reducible rfl))
    try simp only [Act.put, List.setIfInBounds_toArray, List.set_cons_zero, List.set_cons_succ]
    refine wpAnyH_take (i := 2) (v := ?z70) (by simp; rfl) (by kernel_rfl) (by kernel_rfl) (by kernel_rfl) (by exact fun _ _ _ h => h) (Or.inl ⟨by rfl, ?yz70⟩) hHeld ?_
    case yz70 => (intro wx hSw; have hSx := Ex1.mk hSw; go_simp; (try with_reducible rfl))
    try simp only [Act.put, List.setIfInBounds_toArray, List.set_cons_zero, List.set_cons_succ]
    refine wpAnyH_take (i := 3) (v := ?z71) (by simp; rfl) (by kernel_rfl) (by kernel_rfl) (by kernel_rfl) (by exact fun _ _ _ h => h) (Or.inl ⟨by rfl, ?yz71⟩) hHeld ?_
    case yz71 => (intro wx hSw; have hSx := Ex1.mk hSw; go_simp; (try with_reducible rfl))
    try simp only [Act.put, List.setIfInBounds_toArray, List.set_cons_zero, List.set_cons_succ]
    refine wpAnyH_take (i := 4) (v := ?z72) (by simp; rfl) (by kernel_rfl) (by kernel_rfl) (by kernel_rfl) (by exact fun _ _ _ h => h) (Or.inl ⟨by rfl, ?yz72⟩) hHeld ?_
    case yz72 => (intro wx hSw; have hSx := Ex1.mk hSw; go_simp; (try with_reducible rfl))
    try simp only [Act.put, List.setIfInBounds_toArray, List.set_cons_zero, List.set_cons_succ]
    refine wpAnyH_take (i := 5) (v := ?z73) (by simp; rfl) (by kernel_rfl) (by kernel_rfl) (by kernel_rfl) (by exact fun _ _ _ h => h) (Or.inl ⟨by rfl, ?yz73⟩) hHeld ?_
    case yz73 => (intro wx hSw; have hSx := Ex1.mk hSw; go_simp; (try with_reducible rfl))
    try simp only [Act.put, List.setIfInBounds_toArray, List.set_cons_zero, List.set_cons_succ]
    refine wpAnyH_take (i := 6) (v := ?z74) (by simp; rfl) (by kernel_rfl) (by kernel_rfl) (by kernel_rfl) (by exact fun _ _ _ h => h) (Or.inl ⟨by rfl, ?yz74⟩) hHeld ?_
    case yz74 => (intro wx hSw; have hSx := Ex1.mk hSw; go_simp; (try with_reducible rfl))
    try simp only [Act.put, List.setIfInBounds_toArray, List.set_cons_zero, List.set_cons_succ]
    refine wpAnyH_take (i := 7) (v := ?z75) (by simp; rfl) (by kernel_rfl) (by kernel_rfl) (by kernel_rfl) (by exact fun _ _ _ h => h) (Or.inl ⟨by rfl, ?yz75⟩) hHeld ?_
    case yz75 => (intro wx hSw; have hSx := Ex1.mk hSw; go_simp; (try with_reducible rfl))
    try simp only [Act.put, List.setIfInBounds_toArray, List.set_cons_zero, List.set_cons_succ]
    refine wpAnyH_take (i := 8) (v := ?z76) (by simp; rfl) (by kernel_rfl) (by kernel_rfl) (by kernel_rfl) (by exact fun _ _ _ h => h) (Or.inl ⟨by rfl, ?yz76⟩) hHeld ?_
    case yz76 => (intro wx hSw; have hSx := Ex1.mk hSw; go_simp; (try with_reducible rfl))
    try simp only [Act.put, List.setIfInBounds_toArray, List.set_cons_zero, List.set_cons_succ]
    refine wpAnyH_take (i := 9) (v := ?z77) (by simp; rfl) (by kernel_rfl) (by kernel_rfl) (by kernel_rfl) (by exact fun _ _ _ h => h) (Or.inl ⟨by rfl, ?yz77⟩) hHeld ?_
    case yz77 => (intro wx hSw; have hSx := Ex1.mk hSw; go_simp; (try with_reducible rfl))
    try simp only [Act.put, List.setIfInBounds_toArray, List.set_cons_zero, List.set_cons_succ]
    refine wpAnyH_done (by kernel_rfl) ?_ _
    clear hHeld
    go_wp2_with fail
    refine ret_bt rfl Tryd.underlying36 rfl (by kernel_rfl) rfl rfl rfl ?_
    exact ⟨(inferInstance : Gb w _ r).out, .inl ⟨l', c', HT.out, rfl⟩⟩
end Go.Proofs.YtlameeijogdckaaDoor
