/-
  Texts of this claim, joined: Add, DivMod, Long, Gcd, Word, Mem.
-/
import Derived.Test.YtdlnoeegboapkaaGreatDoorCA
import Derived.Test.YtdlnoeegboapkaaGreatDoorCB
import Derived.OneCell
import Derived.WalkMore
import Derived.Laws.BitsAllLaws
import Derived.Deep.CutBlock
import Derived.Deep.RegionWith
import Derived.Deep.Cut
import Derived.Deep.CutRange
import Derived.Deep.RegionHeld3
import Derived.Laws.IdiomCopy
namespace Go.Proofs.YtdlnoeegboapkaaGreatDoor
open Go.RowKit
set_option maxHeartbeats 40000000
set_option maxRecDepth 100000
set_option synthInstance.maxHeartbeats 1000000
set_option synthInstance.maxSize 100000
section
theorem add_step {la lb L : List Nat} {c k : Nat} (hL : L.length = la.length + 1) (hz : ∀ j, k ≤ j → L.getD j 0 = 0) (hdL : Dig L) (hc : c ≤ 1) (hk : k < la.length) (hda : Dig la) (hdb : Dig lb)
    (h : val L + 4294967296 ^ k * c = val (la.take k) + val (lb.take k)) (y : Nat) (hy : (k < lb.length ∧ y = lb.getD k 0) ∨ (lb.length ≤ k ∧ y = 0)) :
    let t := c + la.getD k 0 + y
    Dig (L.set k (t % 4294967296)) ∧ t / 4294967296 ≤ 1 ∧ (∀ j, k + 1 ≤ j → (L.set k (t % 4294967296)).getD j 0 = 0) ∧
      val (L.set k (t % 4294967296)) + 4294967296 ^ (k + 1) * (t / 4294967296) = val (la.take (k + 1)) + val (lb.take (k + 1)) := by
  intro t
  have h1 := dig_get hda k
  have hy2 : y < 4294967296 := by
    rcases hy with ⟨_, rfl⟩ | ⟨_, rfl⟩
    · exact dig_get hdb k
    · omega
  have hb : val (lb.take (k + 1)) = val (lb.take k) + 4294967296 ^ k * y := by
    rcases hy with ⟨hy, rfl⟩ | ⟨hy, rfl⟩
    · exact val_take_snoc lb k hy
    · rw [List.take_of_length_le (by omega), List.take_of_length_le hy]; simp
  have h2 := carry_round (L := L) (j := k) (c := c) (s := la.getD k 0 + y) (t := t) (by omega) (by rw [hz k (Nat.le_refl _)]; omega)
  refine ⟨dig_set hdL k (by omega), by omega, fun j hj => ?_, ?_⟩
  · rw [set_getD_ne _ _ _ _ (by omega)]; exact hz j (by omega)
  · rw [h2, hb, val_take_snoc la k hk, Nat.mul_add, h]; omega
theorem add_end {la lb L : List Nat} {c : Nat} (hL : L.length = la.length + 1) (hz : ∀ j, la.length ≤ j → L.getD j 0 = 0) (hlen : lb.length ≤ la.length)
    (h : val L + 4294967296 ^ la.length * c = val (la.take la.length) + val (lb.take la.length)) : val (L.set la.length c) = val la + val lb := by
  rw [last_carry (by omega) (hz _ (Nat.le_refl _)), h, List.take_length, List.take_of_length_le hlen]
theorem add_both (w : World) (a b : Option Addr) (capa capb : Nat) (la lb : List Nat) (args : Array Value) (hlen : lb.length ≤ la.length)
    (hargs : args = #[.slice a la.length capa, .slice b lb.length capb] ∨ (args = #[.slice b lb.length capb, .slice a la.length capa] ∧ lb.length < la.length)) (hla : la.length ≤ 1000000)
    (hda : Dig la) (hdb : Dig lb) (hra : Cells w a la) (hrb : Cells w b lb) :
    Calls Tryz.prog 272 args w fun e w' => ∃ v, e = .returned v ∧ Own w' w.heap.size v (nf (val la + val lb)) ∧ Below w.heap.size w w' := by
  rcases hargs with rfl | ⟨rfl, hlt⟩
  all_goals
    go_enter Tryz.func272, Tryz.ntmps272
    go_wp2_with (at_make; go_loud (refine make_u32 _ rfl (.tmp 18) (.tmp 18) 25 rfl Tryz.underlying25 _ _ (la.length + 1) rfl rfl (by omega) (by omega) (by omega) ?_); intro w1 R0 B0)
    go_loopw [6, 22] (fun c i wr => ∃ (k cn : Nat) (L : List Nat), k ≤ la.length ∧ i = .int .i64 k ∧ c = .int .u64 cn ∧ cn ≤ 1 ∧ Row wr w.heap.size w.heap.size (la.length + 1) L ∧ Hid (L.length = la.length + 1) ∧ Below w.heap.size w wr ∧
        Hid (∀ j, k ≤ j → L.getD j 0 = 0) ∧ Hid (val L + 4294967296 ^ k * cn = val (la.take k) + val (lb.take k))) (fun _ i _ => la.length - (intOf i).toNat)
    case atStart => exact ⟨0, 0, _, Nat.zero_le _, rfl, rfl, by omega, R0, by show _ = _; simp, B0, fun j _ => getD_replicate _ _, by show _ = _; simp [val_replicate, val_nil]⟩
    case round =>
      obtain ⟨k, cn, L, hk, rfl, rfl, hcn, hR, hL, hB, hz, hv⟩ := hrel
      have hRc := hR.cap
      have hRl := hR.lt
      by_cases hlt : k < la.length
      · obtain ⟨ba, offa, rfl, cA⟩ := hra.at hB hlt
        have hst := @add_step la lb L cn k hL.out hz.out hR.dig hcn hlt hda hdb hv.out
        have cR := hR.cell (j := k) (by rw [hL.out]; omega)
        have fR := hR.free k
        have hx := dig_get hda k
        generalize la.getD k 0 = x at *
        generalize L.getD k 0 = z at *
        by_cases hltb : k < lb.length
        · obtain ⟨bb, offb, rfl, cB⟩ := hrb.at hB hltb
          have hst2 := hst (lb.getD k 0) (.inl ⟨hltb, rfl⟩)
          have hy := dig_get hdb k
          generalize lb.getD k 0 = y at *
          have e1 : ((cn : Int) + (x : Int) + (y : Int)) % 4294967296 = (((cn + x + y) % 4294967296 : Nat) : Int) := (by omega); have HST := Lib.hid hst2; have HE := Lib.hid e1; clear hst hst2 hra hrb e1; go_wp2
          go_roundw
          case rel =>
            obtain ⟨s1, s2, s3, s4⟩ := HST.out; rw [HE.out]
            exact ⟨k + 1, (cn + x + y) / 4294967296, L.set k ((cn + x + y) % 4294967296), by omega, rfl, by go_num, s2, hR.set k (by omega), by show _ = _; rw [List.length_set]; exact hL.out, hB.setCell (Nat.le_refl _) _, s3, s4⟩
          case measure => simp [intOf]; omega
        · have hst2 := hst 0 (.inr ⟨by omega, rfl⟩)
          have e1 : ((cn : Int) + (x : Int)) % 4294967296 = (((cn + x + 0) % 4294967296 : Nat) : Int) := (by omega); have HST := Lib.hid hst2; have HE := Lib.hid e1; clear hst hst2 hra hrb e1; go_wp2
          go_roundw
          case rel =>
            obtain ⟨s1, s2, s3, s4⟩ := HST.out; rw [HE.out]
            exact ⟨k + 1, (cn + x + 0) / 4294967296, L.set k ((cn + x + 0) % 4294967296), by omega, rfl, by go_num, s2, hR.set k (by omega), by show _ = _; rw [List.length_set]; exact hL.out, hB.setCell (Nat.le_refl _) _, s3, s4⟩
          case measure => simp [intOf]; omega
      · obtain rfl : k = la.length := by omega
        have hend := add_end hL.out hz.out hlen hv.out
        have cR := hR.cell (j := la.length) (by rw [hL.out]; omega)
        have fR := hR.free la.length
        generalize L.getD la.length 0 = z at *
        have HV := Lib.hid hend
        have HR2 := hR.set la.length (d := cn) (by omega)
        clear hend hra hrb
        go_wp2_with (go_at_call 191; refine (trim_row _ _ _ _ _ _ HR2 (by rw [List.length_set]; exact hL.out)).mono ?_; rintro e w2 ⟨v, rfl, ho, rfl⟩)
        go_ret; rw [HV.out] at ho; exact ⟨v, rfl, ho, hB.setCell (Nat.le_refl _) _⟩
theorem add_raw (w : World) (a b : Option Addr) (capa capb : Nat) (la lb : List Nat) (hla : la.length ≤ 1000000) (hlb : lb.length ≤ 1000000)
    (hda : Dig la) (hdb : Dig lb) (hra : Cells w a la) (hrb : Cells w b lb) :
    Calls Tryz.prog 272 #[.slice a la.length capa, .slice b lb.length capb] w fun e w' => ∃ v, e = .returned v ∧ Own w' w.heap.size v (nf (val la + val lb)) ∧ Below w.heap.size w w' := by
  by_cases hlt : la.length < lb.length
  · rw [Nat.add_comm]; exact add_both w b a capb capa lb la _ (by omega) (.inr ⟨rfl, hlt⟩) hlb hdb hda hrb hra
  · exact add_both w a b capa capb la lb _ (by omega) (.inl rfl) hla hda hdb hra hrb
theorem add_any (w : World) (u v : Value) (la lb : List Nat) (hu : Rd w u la) (hv : Rd w v lb) (hla : la.length ≤ 1000000) (hlb : lb.length ≤ 1000000) :
    Calls Tryz.prog 272 #[u, v] w fun e w' => ∃ z, e = .returned z ∧ Own w' w.heap.size z (nf (val la + val lb)) ∧ Below w.heap.size w w' := by
  obtain ⟨a, capa, rfl, _, _, hda, hra⟩ := hu; obtain ⟨b, capb, rfl, _, _, hdb, hrb⟩ := hv; exact add_raw w a b capa capb la lb hla hlb hda hdb hra hrb
end
section
def LongSaid : Prop := ∀ (w : World) (a b : Option Addr) (capa capb m n : Nat), 2 ≤ (nf n).length → n ≤ m → (nf m).length ≤ 1000000 → (nf m).length ≤ capa → (nf n).length ≤ capb → capa ≤ 9223372036854775807 → capb ≤ 9223372036854775807 → Cells w a (nf m) → Cells w b (nf n) →
  Calls Tryz.prog 282 #[.slice a (nf m).length capa, .slice b (nf n).length capb] w fun e w' => ∃ q r, e = .returned (.tuple #[q, r]) ∧ Own w' w.heap.size q (nf (m / n)) ∧ Own w' w.heap.size r (nf (m % n)) ∧ Below w.heap.size w w'
def DivPost (w : World) (m n : Nat) (e : Ending) (w' : World) : Prop :=
  ∃ q r, e = .returned (.tuple #[q, r, .bool (decide (n ≠ 0))]) ∧ Own w' w.heap.size q (nf (m / n)) ∧ Own w' w.heap.size r (nf (if n = 0 then 0 else m % n)) ∧ Below w.heap.size w w'
theorem divmod_any (w : World) (u v : Value) (la lb : List Nat) (hu : Rd w u la) (hv : Rd w v lb) (hla : la.length ≤ 1000000) (hlong : val lb < 4294967296 ∨ LongSaid) :
    Calls Tryz.prog 250 #[u, v] w (DivPost w (val la) (val lb)) := by
  have hle1 := nf_val_len hu.dig
  go_enter Tryz.func250, Tryz.ntmps250; go_wp2_with fail
  refine (trim_any _ _ _ hu).mono ?_
  rintro e w1 ⟨u', rfl, hu', rfl⟩
  go_wp2_with fail
  refine (trim_any _ _ _ hv).mono ?_
  rintro e w1 ⟨v', rfl, hv', rfl⟩
  have hxl : (nf (val la)).length ≤ 1000000 := (by omega)
  generalize val la = m at *
  generalize val lb = n at *
  have hu2 := hu'
  have hv2 := hv'
  obtain ⟨b, capb, rfl, hcb, hcbm, hdb, hrb⟩ := hv'; clear hu hv hle1 hla
  by_cases hn : n = 0
  · subst hn
    have hl0 : (nf 0).length = 0 := rfl
    generalize (nf 0).length = k at *
    subst hl0; go_wp2
    go_ret3
    exact ⟨_, _, rfl, by rw [Nat.div_zero]; exact Own.nil _ _, Own.nil _ _, Below.refl _ _⟩
  · have hp := nf_len_pos hn
    have hb0 : (((nf n).length : Int) == 0) = false := by rw [beq_eq_false_iff_ne]; omega
    have HD := Lib.hid (decide_eq_true (show n ≠ 0 from hn)); have HI := Lib.hid (show (if n = 0 then 0 else m % n) = m % n from if_neg hn); go_wp2_with fail
    refine (natCmp_any _ _ _ _ _ hu2 hv2).mono ?_
    rintro e w2 ⟨rfl, hb2⟩
    rw [val_nf, val_nf]
    by_cases hlt : m < n
    · rw [cmpN_lt hlt]; have HQ := Lib.hid (Nat.div_eq_of_lt hlt); have HR := Lib.hid (Nat.mod_eq_of_lt hlt); clear hlt hn; go_wp2_with fail
      refine (clone_any _ _ _ (hu2.keep hb2) hxl).mono ?_
      rintro e w3 ⟨z, rfl, hz, hb3⟩
      go_wp2
      go_ret3
      exact ⟨_, _, by rw [HD.out]; rfl, by rw [HQ.out]; exact Own.nil _ _, by rw [HI.out, HR.out]; exact hz.mono hb2.size, hb2.trans (hb3.mono hb2.size)⟩
    · have hge : 0 ≤ cmpN m n := by unfold cmpN; rw [if_neg hlt]; split <;> omega
      generalize cmpN m n = c at *
      by_cases h1 : (nf n).length = 1
      · obtain ⟨ba, off, rfl, hcell⟩ := hrb hp
        have c0 := (hb2.cell (Cells.below hrb hp _ _ rfl)).trans (hcell 0 hp)
        have hval := val_nf n
        have hd0 := dig_get hdb 0
        have hn0 : (nf n).getD 0 0 = n := by
          match hl : nf n, h1, hval with
          | [d], _, hval => rw [val_cons, val_nil] at hval; simpa using hval
        rw [hn0] at c0 hd0; rw [Nat.add_zero] at c0
        have hs := short_any w2 _ _ n (hu2.keep hb2) hxl (by omega) hd0
        rw [val_nf] at hs
        have hml : m % n < n := Nat.mod_lt _ (by omega)
        have hf := fun w => fromUint_any w (m % n) (by omega)
        unfold ShortPost at hs
        have hb1 : (((nf n).length : Int) == 1) = true := by rw [h1]; rfl
        generalize hqq : m / n = q0 at hs
        generalize hrr : m % n = r0 at hs hml hf
        have HQQ := Lib.hid hqq; have HRR := Lib.hid hrr; clear hqq hrr; clear hval hn0 hcell hlong h1; go_wp2_with fail
        refine hs.mono ?_
        rintro e w3 ⟨z, rfl, hz, hb3⟩
        have hb23 := hb2.trans (hb3.mono hb2.size)
        have HS := Lib.hid hs; clear hs; go_wp2_with fail
        refine (hf _).mono ?_
        rintro e w4 ⟨y, rfl, hy, hb4⟩
        go_wp2
        go_ret3
        exact ⟨_, _, by rw [HD.out]; rfl, by rw [HQQ.out]; exact (hz.mono hb2.size).keep hb4, by rw [HI.out, HRR.out]; exact hy.mono (Nat.le_trans hb2.size hb3.size), hb23.trans (hb4.mono hb23.size)⟩
      · have hb1 : (((nf n).length : Int) == 1) = false := by rw [beq_eq_false_iff_ne]; omega
        have hL : LongSaid := by
          rcases hlong with h | h
          · exfalso
            have := nf_len_le (n := n) (k := 1) (by simpa using h)
            omega
          · exact h
        have hu3 := hu2.keep hb2
        have hrb3 := hrb.keep hb2
        obtain ⟨a, capa, rfl, hca, hcam, hda, hra⟩ := hu3
        have hs := hL w2 a b capa capb m n (by omega) (by omega) hxl hca hcb hcam hcbm hra hrb3
        have HS := Lib.hid hs; have HL := Lib.hid hL; clear hs hL hlong; go_wp2_with fail
        refine HS.out.mono ?_
        rintro e w3 ⟨q, r, rfl, hq, hr, hb3⟩
        go_wp2
        go_ret3
        exact ⟨_, _, by rw [HD.out]; rfl, hq.mono hb2.size, by rw [HI.out]; exact hr.mono hb2.size, hb2.trans (hb3.mono hb2.size)⟩
theorem rd_lit {w : World} {b : Nat} (hb : w.heap.size = b) (l : List Nat) (hd : Dig l) (hl : l.length ≤ 1000000) (cs : Array Value) (hcs : cs = (l.map dv).toArray) (n : Nat) (hn : n = l.length) :
    Rd (w.alloc (.cells cs 106)) (.slice (some ⟨b, 0, none⟩) n n) l := by
  subst hn; subst hb
  exact (own_lit w l hd hl cs hcs).rd
theorem blw_alloc {w w' : World} (h : Below w.heap.size w w') (o : Obj) : Below w.heap.size w (w'.alloc o) := h.alloc h.size o
theorem blw_one (w : World) (o : Obj) : Below w.heap.size w (w.alloc o) := (Below.refl _ _).alloc (Nat.le_refl _) o
theorem blw_trans {a b c : World} (h : Below a.heap.size a b) (k : Below b.heap.size b c) : Below a.heap.size a c := h.trans (k.mono h.size)
theorem dig1 {a : Nat} (ha : a < 4294967296) : Dig [a] := dig_cons ha dig_nil
theorem nf_one {a : Nat} (ha : a < 4294967296) (h0 : a ≠ 0) : nf a = [a] := by
  rw [nf_pos h0, Nat.mod_eq_of_lt ha, Nat.div_eq_of_lt ha, nf_zero]
end
section
theorem kn_norm {n : Nat} (hn : n ≠ 0) {N x s : Nat} (hN : N = (nf n).length) (hx : x = (nf n).getD (N - 1) 0) (hs : s = 32 - blen x) :
    s ≤ 31 ∧ blen x ≤ 32 ∧ 2147483648 * 4294967296 ^ (N - 1) ≤ n * 2 ^ s ∧ n * 2 ^ s < 4294967296 ^ N ∧ 0 < N := by
  have hp := nf_len_pos hn
  have hl := nf_last n hn
  have hd := dig_get (dig_nf n) (N - 1)
  rw [← hN] at hl hp; rw [← hx] at hl hd
  have hb := blen_le32 hd
  obtain ⟨b1, b2⟩ := blen_ge (x := x) (by omega) hl
  have b3 := blen_lt (x := x) (by omega)
  have h1 := val_take_drop (nf n) (N - 1) (by omega)
  have h2 := val_lt ((nf n).take (N - 1)) (dig_take (dig_nf n) (N - 1))
  rw [List.length_take, Nat.min_eq_left (by omega)] at h2; rw [val_drop_cons _ (N - 1) (by omega), List.drop_eq_nil_of_le (by omega), val_nil, val_nf, ← hx, Nat.mul_zero, Nat.add_zero] at h1
  generalize val ((nf n).take (N - 1)) = lo at *
  have eS : 2 ^ blen x * 2 ^ s = 4294967296 := by
    rw [← Nat.pow_add, hs, show blen x + (32 - blen x) = 32 by omega]
  have eS2 : 2 ^ (blen x - 1) * 2 ^ s = 2147483648 := by
    rw [← Nat.pow_add, hs, show blen x - 1 + (32 - blen x) = 31 by omega]
  have eN : 4294967296 ^ N = 4294967296 ^ (N - 1) * 4294967296 := by
    rw [← Nat.pow_succ]; congr 1; omega
  refine ⟨by omega, hb, ?_, ?_, hp⟩
  · have a1 : 2 ^ (blen x - 1) * 2 ^ s ≤ x * 2 ^ s := Nat.mul_le_mul_right _ b2
    rw [eS2] at a1
    have a2 := Nat.mul_le_mul_left (4294967296 ^ (N - 1)) a1
    rw [← Nat.mul_assoc] at a2
    have a3 : 4294967296 ^ (N - 1) * x * 2 ^ s ≤ n * 2 ^ s := Nat.mul_le_mul_right _ (by omega)
    rw [Nat.mul_comm 2147483648]; omega
  · have a1 : (x + 1) * 2 ^ s ≤ 2 ^ blen x * 2 ^ s := Nat.mul_le_mul_right _ b3
    rw [eS] at a1
    have a2 := Nat.mul_le_mul_left (4294967296 ^ (N - 1)) a1
    rw [← Nat.mul_assoc] at a2
    have a3 : (n + 1) * 2 ^ s ≤ 4294967296 ^ (N - 1) * (x + 1) * 2 ^ s := Nat.mul_le_mul_right _ (by rw [Nat.mul_add]; omega)
    have a4 : 0 < 2 ^ s := Nat.pow_pos (by omega)
    rw [Nat.add_mul, Nat.one_mul] at a3; rw [eN]; omega
theorem kn_ys {V N : Nat} (h1 : 2147483648 * 4294967296 ^ (N - 1) ≤ V) (h2 : V < 4294967296 ^ N) (hp : 0 < N) :
    (nf V).length = N ∧ 2147483648 ≤ (nf V).getD (N - 1) 0 := by
  have hl := nf_len_le h2
  have hV : V ≠ 0 := by
    have : 0 < 4294967296 ^ (N - 1) := Nat.pow_pos (by omega)
    omega
  have hl2 : (nf V).length = N := by
    rcases Nat.lt_or_ge (nf V).length N with h | h
    · exfalso
      have := lt_of_nf_len (n := V) (k := N - 1) (by omega)
      omega
    · omega
  refine ⟨hl2, ?_⟩
  have h3 := val_take_drop (nf V) (N - 1) (by omega)
  have h4 := val_lt ((nf V).take (N - 1)) (dig_take (dig_nf V) (N - 1))
  rw [List.length_take, Nat.min_eq_left (by omega)] at h4; rw [val_drop_cons _ (N - 1) (by omega), List.drop_eq_nil_of_le (by omega), val_nil, val_nf, Nat.mul_zero, Nat.add_zero] at h3
  generalize (nf V).getD (N - 1) 0 = x at *
  rcases Nat.lt_or_ge x 2147483648 with h | h
  · exfalso
    have a1 : 4294967296 ^ (N - 1) * (x + 1) ≤ 4294967296 ^ (N - 1) * 2147483648 := Nat.mul_le_mul_left _ h
    rw [Nat.mul_add] at a1; omega
  · exact h
theorem kn_us {m la s : Nat} (hla : la = (nf m).length) (hs : s ≤ 31) : la ≤ (nf (m * 2 ^ s)).length ∧ (nf (m * 2 ^ s)).length ≤ la + 1 ∧
    ((nf (m * 2 ^ s) ++ [0, 0]).take (la + 1)).length = la + 1 ∧ val ((nf (m * 2 ^ s) ++ [0, 0]).take (la + 1)) = m * 2 ^ s := by
  have h1 : m ≤ m * 2 ^ s := Nat.le_mul_of_pos_right _ (Nat.pow_pos (by omega))
  have h2 := nf_len_mono h1
  have h3 : m < 4294967296 ^ la := lt_of_nf_len (by omega)
  have h4 : 2 ^ s ≤ 2 ^ 31 := Nat.pow_le_pow_right (by omega) hs
  have h5 : m * 2 ^ s < 4294967296 ^ (la + 1) := by
    have a : m * 2 ^ s ≤ m * 4294967296 := Nat.mul_le_mul_left _ (by omega)
    have b : (m + 1) * 4294967296 ≤ 4294967296 ^ la * 4294967296 := Nat.mul_le_mul_right _ h3
    rw [Nat.pow_succ]; omega
  have h6 := nf_len_le h5
  refine ⟨by omega, h6, by simp; omega, ?_⟩
  rw [val_eq_take, val_append, val_nf]
  · simp [val_cons, val_nil]
  · intro i hi; rw [List.getD_eq_getElem?_getD, List.getElem?_append_right (by omega)]
    generalize i - (nf (m * 2 ^ s)).length = k
    match k with
    | 0 => rfl
    | 1 => rfl
    | k + 2 => rfl
theorem kn_head {M V la N j top second : Nat} {Q U ys : List Nat} (KO : KnOut M V Q U (j + 1)) (hdU : Dig U) (hdy : Dig ys) (hy : ys.length = N) (hN : 2 ≤ N) (hU : U.length = la + 1) (hj : j + N ≤ la)
    (hV : val ys = V) (ht : top = ys.getD (N - 1) 0) (hs : second = ys.getD (N - 2) 0) (h0 : 2147483648 ≤ top) :
    U.getD (j + N) 0 ≤ top ∧ Nonempty (KnTop (val U / 4294967296 ^ j) V top second (U.getD (j + N) 0) (U.getD (j + N - 1) 0) (U.getD (j + N - 2) 0)) ∧
      val U / 4294967296 ^ j / V < 4294967296 ∧ (∀ i, j + N + 1 ≤ i → U.getD i 0 = 0) ∧ 0 < V ∧ V < 4294967296 ^ N := by
  have hVN : V < 4294967296 ^ N := by rw [← hV, ← hy]; exact val_lt ys hdy
  have hz := zero_above (kn_small KO (Nat.le_of_lt hVN))
  obtain ⟨KT⟩ := kn_top (U := U) (ys := ys) (N := N - 2) (j := j) hdU hdy (by omega) (by omega) (fun i hi => hz i (by omega))
  rw [show N - 2 + 1 = N - 1 by omega, show N - 2 + 2 = N by omega, show j + (N - 1) = j + N - 1 by omega, show j + (N - 2) = j + N - 2 by omega, hV, ← ht, ← hs] at KT
  have hV0 : 0 < V := by
    rcases Nat.eq_zero_or_pos V with h | h
    · have := KT.hV2
      subst h
      have h2 : 2147483648 * 4294967296 * KT.P ≤ (top * 4294967296 + second) * KT.P := Nat.mul_le_mul_right _ (by omega)
      have := KT.hP
      omega
    · exact h
  have hq := kn_digit KO hV0
  refine ⟨?_, ⟨KT⟩, hq, hz, hV0, hVN⟩
  rw [Nat.div_lt_iff_lt_mul hV0] at hq
  have h1 := KT.hW2
  have h2 := KT.hV1
  have hsd := dig_get hdy (N - 2)
  rw [← hs] at hsd
  generalize U.getD (j + N) 0 = a at *
  generalize U.getD (j + N - 1) 0 = b at *
  generalize U.getD (j + N - 2) 0 = c at *
  generalize val U / 4294967296 ^ j = W at *
  rcases Nat.lt_or_ge top a with h | h
  · exfalso
    have h3 : (top * 4294967296 + second + 1) * KT.P ≤ (top + 1) * 4294967296 * KT.P := Nat.mul_le_mul_right _ (by omega)
    have h4 : ((top + 1) * 4294967296 * 4294967296) * KT.P ≤ ((b + 4294967296 * a) * 4294967296 + c) * KT.P := Nat.mul_le_mul_right _ (by omega)
    have e : (top + 1) * 4294967296 * 4294967296 * KT.P = 4294967296 * ((top + 1) * 4294967296 * KT.P) := by
      rw [Nat.mul_comm ((top + 1) * 4294967296) 4294967296, Nat.mul_assoc]
    omega
  · exact h
theorem and_low (t : Nat) (h : t < 18446744073709551616) : bits .and .u64 (t : Int) 4294967295 = ((t % 4294967296 : Nat) : Int) := by
  have h1 := u64_and_nat t 4294967295 h (by omega)
  have h2 : t &&& 4294967295 = t % 4294967296 := by
    have := Nat.and_two_pow_sub_one_eq_mod t 32
    simpa using this
  rw [h2] at h1; exact h1
def KnSub (X : Nat) (ys U : List Nat) (j N guess h1 k b c : Nat) : Prop :=
  (∀ i, j + N + 1 ≤ i → U.getD i 0 = 0) ∧ U.getD (j + N) 0 = h1 ∧ val U + 4294967296 ^ j * (guess * val (ys.take k)) = X + 4294967296 ^ (j + k) * (b + c)
theorem KnSub.step {X : Nat} {ys U : List Nat} {j N la guess h1 k b c u d x b' : Nat} (h : KnSub X ys U j N guess h1 k b c) (hk : k < N) (hy : ys.length = N) (hU : U.length = la + 1) (hj : j + N ≤ la)
    (hu : u = U.getD (j + k) 0) (hd : d = ys.getD k 0) (he : x + (c + guess * d) % 4294967296 + b = u + 4294967296 * b') :
    KnSub X ys (U.set (j + k) x) j N guess h1 (k + 1) b' ((c + guess * d) / 4294967296) := by
  obtain ⟨z1, z2, z3⟩ := h
  refine ⟨fun i hi => by rw [set_getD_ne _ _ _ _ (by omega)]; exact z1 i hi, by rw [set_getD_ne _ _ _ _ (by omega)]; exact z2, ?_⟩
  exact kn_sub (by omega) hu.symm (by rw [hd]; exact val_take_snoc ys k (by omega)) he z3
theorem kn_carry {c g d : Nat} (hc : c < 4294967296) (hg : g < 4294967296) (hd : d < 4294967296) : c + g * d < 18446744073709551616 ∧ (c + g * d) / 4294967296 < 4294967296 := by
  have h := mul_bound hg hd hc (z := 0) (by omega)
  constructor <;> omega
theorem KnSub.last {X : Nat} {ys U : List Nat} {j N la guess h1 b c x b' : Nat} (h : KnSub X ys U j N guess h1 N b c) (hy : ys.length = N) (hU : U.length = la + 1) (hj : j + N ≤ la) (hc : c < 4294967296)
    (he : x + c + b = h1 + 4294967296 * b') :
    (∀ i, j + N + 1 ≤ i → (U.set (j + N) x).getD i 0 = 0) ∧ (U.set (j + N) x).getD (j + N) 0 = x ∧ val (U.set (j + N) x) + 4294967296 ^ j * (guess * val ys) = X + 4294967296 ^ (j + N + 1) * b' := by
  obtain ⟨z1, z2, z3⟩ := h
  refine ⟨fun i hi => by rw [set_getD_ne _ _ _ _ (by omega)]; exact z1 i hi, set_getD_eq _ _ _ (by omega), ?_⟩
  have h1 := kn_sub (d := 0) (u := h1) (x := x) (b' := b') (by omega) z2 (by rw [List.take_of_length_le (by omega), List.take_of_length_le (by omega), Nat.mul_zero, Nat.add_zero]) (by rw [Nat.mul_zero, Nat.add_zero, Nat.mod_eq_of_lt hc]; omega) z3
  rw [List.take_of_length_le (by omega), Nat.mul_zero, Nat.add_zero c, Nat.div_eq_of_lt hc, Nat.add_zero, ← Nat.add_assoc] at h1; exact h1
theorem kn_nb {M V la N j guess h1 b c x : Nat} {Q U0 U ys : List Nat} (KO : KnOut M V Q U0 (j + 1)) (h : KnSub (val U0) ys U j N guess h1 N b c) (hy : ys.length = N) (hV : val ys = V) (hV0 : 0 < V)
    (hU : U.length = la + 1) (hj : j + N ≤ la) (hc : c < 4294967296) (he : x + c + b = h1) (hge : val U0 / 4294967296 ^ j / V ≤ guess) (hjq : j < Q.length) : KnOut M V (Q.set j guess) (U.set (j + N) x) j := by
  obtain ⟨_, _, h3⟩ := KnSub.last (b' := 0) h hy hU hj hc (by omega); rw [Nat.mul_zero, Nat.add_zero, hV] at h3; exact kn_next KO hjq hV0 (kn_right h3 hV0 hge).symm h3
theorem val_lt_above {U : List Nat} {k : Nat} (hd : Dig U) (hz : ∀ i, k ≤ i → U.getD i 0 = 0) : val U < 4294967296 ^ k := by
  rw [← val_eq_take hz]
  have h := val_lt (U.take k) (dig_take hd k)
  rw [List.length_take] at h; exact Nat.lt_of_lt_of_le h (Nat.pow_le_pow_right (by omega) (Nat.min_le_left _ _))
theorem kn_wb {V la N j guess h1 b c x : Nat} {U0 U ys : List Nat} (h : KnSub (val U0) ys U j N guess h1 N b c) (hy : ys.length = N) (hV : val ys = V)
    (hU : U.length = la + 1) (hj : j + N ≤ la) (hc : c < 4294967296) (he : x + c + b = h1 + 4294967296) (hx : x < 4294967296) (hdU : Dig U) (hge : val U0 / 4294967296 ^ j / V ≤ guess) (hle : guess ≤ val U0 / 4294967296 ^ j / V + 1) :
    guess = val U0 / 4294967296 ^ j / V + 1 ∧ (∀ i, j + N + 1 ≤ i → (U.set (j + N) x).getD i 0 = 0) ∧ (U.set (j + N) x).getD (j + N) 0 = x ∧ val (U.set (j + N) x) + 4294967296 ^ j * (guess * V) = val U0 + 4294967296 ^ (j + N + 1) := by
  obtain ⟨h1, h2, h3⟩ := KnSub.last (b' := 1) h hy hU hj hc (by omega); rw [Nat.mul_one, hV] at h3; exact ⟨kn_wrong h3 (val_lt_above (dig_set hdU _ hx) h1) hle hge, h1, h2, h3⟩
def KnAdd (Y : Nat) (ys U : List Nat) (j N x k c : Nat) : Prop :=
  (∀ i, j + N + 1 ≤ i → U.getD i 0 = 0) ∧ U.getD (j + N) 0 = x ∧ val U + 4294967296 ^ (j + k) * c = Y + 4294967296 ^ j * val (ys.take k)
theorem KnAdd.step {Y : Nat} {ys U : List Nat} {j N la x k c u d : Nat} (h : KnAdd Y ys U j N x k c) (hk : k < N) (hy : ys.length = N) (hU : U.length = la + 1) (hj : j + N ≤ la)
    (hu : u = U.getD (j + k) 0) (hd : d = ys.getD k 0) : KnAdd Y ys (U.set (j + k) ((c + (u + d)) % 4294967296)) j N x (k + 1) ((c + (u + d)) / 4294967296) := by
  obtain ⟨z1, z2, z3⟩ := h
  refine ⟨fun i hi => by rw [set_getD_ne _ _ _ _ (by omega)]; exact z1 i hi, by rw [set_getD_ne _ _ _ _ (by omega)]; exact z2, ?_⟩
  exact kn_add (by omega) hu.symm (by rw [hd]; exact val_take_snoc ys k (by omega)) z3
theorem kn_ab {M V la N j q x c Y : Nat} {Q U0 U ys : List Nat} (KO : KnOut M V Q U0 (j + 1)) (h : KnAdd Y ys U j N x N c) (hY : Y + 4294967296 ^ j * ((q + 1) * V) = val U0 + 4294967296 ^ (j + N + 1)) (hy : ys.length = N) (hV : val ys = V)
    (hV0 : 0 < V) (hVN : V < 4294967296 ^ N) (hU : U.length = la + 1) (hj : j + N ≤ la) (hdU : Dig U) (hq : q = val U0 / 4294967296 ^ j / V) (hjq : j < Q.length) :
    KnOut M V (Q.set j q) (U.set (j + N) ((x + c) % 4294967296)) j := by
  obtain ⟨z1, z2, z3⟩ := h
  have h1 := kn_add (d := 0) (u := x) (k := c) (by omega) z2 (by rw [List.take_of_length_le (by omega), List.take_of_length_le (by omega), Nat.mul_zero, Nat.add_zero]) z3
  rw [List.take_of_length_le (by omega), Nat.add_zero, hV, ← Nat.add_assoc, Nat.add_comm c x] at h1
  have hz : ∀ i, j + N + 1 ≤ i → (U.set (j + N) ((x + c) % 4294967296)).getD i 0 = 0 := fun i hi => by rw [set_getD_ne _ _ _ _ (by omega)]; exact z1 i hi
  have hlt := val_lt_above (dig_set hdU (j + N) (Nat.mod_lt (x + c) (by omega))) hz
  refine kn_next KO hjq hV0 hq (kn_back hY h1 hlt hq hV0 ?_)
  rw [Nat.add_assoc, Nat.pow_add, Nat.pow_succ]
  refine Nat.mul_le_mul_left _ ?_
  omega
theorem wrap_two {u lo bn : Nat} (hu : u < 4294967296) (hl : lo < 4294967296) (hb : bn ≤ 1) (h : u < lo + bn) :
    IntKind.u64.wrap (IntKind.u64.wrap ((u : Int) - (lo : Int)) - (bn : Int)) % 4294967296 = ((u + 4294967296 - lo - bn : Nat) : Int) ∧ IntKind.u64.wrap (IntKind.u64.wrap ((u : Int) - (lo : Int)) - (bn : Int)) / 9223372036854775808 = ((1 : Nat) : Int) := by
  rw [IntKind.wrap_u64, IntKind.wrap_u64]
  constructor <;> omega
theorem hi_zero {x : Int} (h0 : 0 ≤ x) (h : x < 4294967296) : x / 4294967296 = 0 := by omega
theorem hi_one {x : Int} (h : 4294967296 ≤ x) : (x / 4294967296 == 0) = false ∧ (x / 4294967296 != 0) = true := by
  have e : (x / 4294967296 == 0) = false := by rw [beq_eq_false_iff_ne]; omega
  exact ⟨e, by rw [bne, e]; rfl⟩
theorem Row.far {w : World} {base g cap : Nat} {l : List Nat} (h : Row w base g cap l) {g' : Nat} (hne : g ≠ g') (j : Nat) (x : Value) : Row (w.setCell ⟨g', j, none⟩ x) base g cap l :=
  ⟨h.1, ownsRow_setCell_other h.2 (by show some g ≠ some g'; exact fun e => hne (Option.some.inj e)) x⟩
theorem Own.form {w : World} {base : Nat} {v : Value} {l : List Nat} (h : Own w base v l) (hn : 0 < l.length) : ∃ g cap, v = .slice (some ⟨g, 0, none⟩) l.length cap ∧ Row w base g cap l := by
  rcases h.shape with ⟨_, e⟩ | ⟨g, cap, rfl, _⟩
  · subst e; simp at hn
  · exact ⟨g, cap, rfl, h⟩
structure LongMem (w wr : World) (gu capu gv capv gq capq : Nat) (ys U Q : List Nat) : Prop where
  u : Row wr w.heap.size gu capu U
  v : Row wr w.heap.size gv capv ys
  q : Row wr w.heap.size gq capq Q
  below : Below w.heap.size w wr
  far : gu ≠ gv ∧ gu ≠ gq ∧ gv ≠ gq
theorem LongMem.setU {w wr : World} {gu capu gv capv gq capq : Nat} {ys U Q : List Nat} (h : LongMem w wr gu capu gv capv gq capq ys U Q) (j : Nat) {d : Nat} (hd : d < 4294967296) :
    LongMem w (wr.setCell ⟨gu, j, none⟩ (.int .u32 (d : Int))) gu capu gv capv gq capq ys (U.set j d) Q :=
  ⟨h.u.set j hd, h.v.far h.far.1.symm _ _, h.q.far h.far.2.1.symm _ _, h.below.setCell h.u.lt.1 _, h.far⟩
theorem LongMem.setQ {w wr : World} {gu capu gv capv gq capq : Nat} {ys U Q : List Nat} (h : LongMem w wr gu capu gv capv gq capq ys U Q) (j : Nat) {d : Nat} (hd : d < 4294967296) :
    LongMem w (wr.setCell ⟨gq, j, none⟩ (.int .u32 (d : Int))) gu capu gv capv gq capq ys U (Q.set j d) :=
  ⟨h.u.far h.far.2.1 _ _, h.v.far h.far.2.2 _ _, h.q.set j hd, h.below.setCell h.q.lt.1 _, h.far⟩
theorem LongMem.drewN {w wr : World} {gu capu gv capv gq capq : Nat} {ys U Q : List Nat} (h : LongMem w wr gu capu gv capv gq capq ys U Q) (n : Nat) :
    LongMem w (wr.drewN n) gu capu gv capv gq capq ys U Q :=
  ⟨h.u, h.v, h.q, blw_drewN h.below n, h.far⟩
theorem long_any : LongSaid := by
  intro w a b capa capb m n hN hmn hM hca hcb hcam hcbm hra hrb
  have hNM := nf_len_mono hmn
  have hn0 : n ≠ 0 := by
    intro h; subst h; exact absurd hN (by decide)
  have hlast := nf_last n hn0
  have htop := dig_get (dig_nf n) ((nf n).length - 1)
  obtain ⟨s, hs⟩ : ∃ s, s = 32 - blen ((nf n).getD ((nf n).length - 1) 0) := ⟨_, rfl⟩; obtain ⟨s1, sb, s2, s3, s4⟩ := kn_norm hn0 rfl rfl hs; have hsi : (32 : Int) - (blen ((nf n).getD ((nf n).length - 1) 0) : Int) = (s : Int) := (by omega); obtain ⟨y1, y2⟩ := kn_ys s2 s3 s4; obtain ⟨u1, u2, u3, u4⟩ := kn_us (m := m) rfl s1
  have hRa : Rd w (.slice a (nf m).length capa) (nf m) := ⟨a, capa, rfl, hca, hcam, dig_nf m, hra⟩
  have hRb : Rd w (.slice b (nf n).length capb) (nf n) := ⟨b, capb, rfl, hcb, hcbm, dig_nf n, hrb⟩
  obtain ⟨bb, offb, rfl, hcell⟩ := hrb (by omega)
  have c0 := hcell ((nf n).length - 1) (by omega)
  have hlz := fun w => lz32_any w ((nf n).getD ((nf n).length - 1) 0) htop
  rw [hsi] at hlz
  have hshlA := shl_any w _ _ s hRa hM (by omega)
  have hshlB := fun w' (hb : Below w.heap.size w w') => shl_any w' _ _ s (hRb.keep hb) (by omega) (by omega)
  rw [val_nf] at hshlA; simp only [val_nf] at hshlB; have hVl : (nf n).length ≤ 1000000 := (by omega); have HM := Lib.hid (lt_of_nf_len (n := m) (Nat.le_refl (nf m).length)); have HS2 := Lib.hid s2; have HS1 := Lib.hid s1; have HY2 := Lib.hid y2
  have hdY := dig_nf (n * 2 ^ s)
  have hdU := dig_nf (m * 2 ^ s)
  have HU4 := Lib.hid u4; have HYV := Lib.hid (val_nf (n * 2 ^ s))
  generalize (nf n).getD ((nf n).length - 1) 0 = x0 at *
  generalize nf (n * 2 ^ s) = ys at *
  generalize nf (m * 2 ^ s) = us at *
  generalize (nf m).length = la at *
  generalize (nf n).length = N at *
  clear hcell hsi hs s2 s3 s1 y2 u4 hra hrb hlast hRa hRb hn0 hmn sb; have HA := Lib.hid hshlA; have HB := Lib.hid hshlB; have HL := Lib.hid hlz; have HU3 := Lib.hid u3; have HY1 := Lib.hid y1; clear hshlA hshlB hlz u3 y1; go_enter Tryz.func282, Tryz.ntmps282; go_wp2_with fail
  go_step3
  go_wp2_with fail
  refine (HL.out _).mono ?_
  rintro e w1 ⟨rfl, rfl⟩
  have hs1 := HS1.out
  have hs2 : (0 : Int) ≤ (s : Int) := (by omega); have hs3 : (s : Int) ≤ 31 := (by omega); clear hs1; go_wp2_with fail
  refine HA.out.mono ?_
  rintro e w1 ⟨z, rfl, hz, hB1⟩
  have hL2 : 0 < (us ++ [0, 0]).length := by simp
  have hLn : (us ++ [0, 0]).length = us.length + 2 := by simp
  go_wp2_with (at_builtin; go_loud (refine app_u32 _ rfl (.tmp 35) (.tmp 36) 25 25 rfl Tryz.underlying25 Tryz.underlying25 w.heap.size _ _ us [0, 0] rfl rfl (hz.keep (blw_one _ _)) (own_lit _ [0, 0] (dig_cons (by omega) (dig_cons (by omega) dig_nil)) (by simp) _ rfl).rd (by simp; omega) (by have := hB1.size; simp; omega) ?_); intro v1 w2 o1 g1 hb1; obtain ⟨gu, capu, rfl, hR⟩ := o1.form hL2; have hRc := hR.cap; rw [hLn] at hRc)
  have hB2 := own_grown (hz.keep (blw_one _ _)) (blw_alloc hB1 _) g1 (Nat.le_refl _)
  have hRl := hR.lt
  refine (HB.out w2 hB2).mono ?_
  rintro e w3 ⟨z2, rfl, hz2, hB3⟩
  obtain ⟨gv, capv, rfl, hV⟩ := hz2.form (by rw [HY1.out]; omega)
  have hR1 := (hR.keep hB3).take (la + 1) (by rw [hLn]; omega)
  have hB13 := blw_trans hB2 hB3
  have hVl2 := hV.lt
  have hVc := hV.cap
  have cT := hV.cell (j := N - 1) (by rw [HY1.out]; omega)
  have cS := hV.cell (j := N - 2) (by rw [HY1.out]; omega)
  have hT := dig_get hdY (N - 1)
  have hS := dig_get hdY (N - 2)
  have hT2 := HY2.out
  rw [HY1.out] at hVc; obtain ⟨top, etop⟩ : ∃ x, x = ys.getD (N - 1) 0 := ⟨_, rfl⟩; obtain ⟨second, esec⟩ : ∃ x, x = ys.getD (N - 2) 0 := ⟨_, rfl⟩; rw [← etop] at cT hT hT2; rw [← esec] at cS hS; have ET := Lib.hid etop; have ES := Lib.hid esec
  have HR1 : Hid (Row w3 w.heap.size gu capu (List.take (la + 1) (us ++ [0, 0]))) := by
    have := hR1
    unfold Row; rw [HU3.out]; exact this
  have hNi1 : (N : Int) - 1 < (ys.length : Int) := by rw [HY1.out]; omega
  have hNi2 : (N : Int) - 2 < (ys.length : Int) := by rw [HY1.out]; omega
  have hNi3 : (0 : Int) ≤ (N : Int) - 2 := (by omega); rw [HY1.out] at hNi1 hNi2
  generalize hU0 : List.take (la + 1) (us ++ [0, 0]) = U0 at *
  clear etop esec g1 hb1 hR hR1 hz hz2 HA HB HL o1 hL2 hLn hdU u1 u2 hU0 c0
  generalize hgy : ys.length = K
  obtain rfl : N = K := by rw [← hgy]; exact HY1.out.symm
  clear hgy; go_wp2_with fail
  go_quiet (fail)
  go_wp2_with (at_make; go_loud (refine make_u32 _ rfl (.tmp 62) (.tmp 62) 25 rfl Tryz.underlying25 _ _ (la + 1 - N) rfl rfl (by omega) (by omega) (by omega) ?_); intro w4 R0 B0)
  go_step3
  have hM0 : LongMem w w4 gu capu gv capv w3.heap.size (la + 1 - N) ys U0 (List.replicate (la + 1 - N) 0) := by
    have hb3 : Below w3.heap.size w3 (w3.drewN nq) := blw_drewN (Below.refl _ _) nq
    have hb4 : Below w3.heap.size w3 w4 := blw_trans hb3 B0
    exact ⟨HR1.out.keep hb4, (hV.keep hb4).mono (by have := hB2.size; omega), R0.mono (by have := hB13.size; simpa using this), blw_trans hB13 hb4, by have := hRl; have := hVl2; have := hB3.size; omega⟩
  have hU4 := HU4.out
  have KO0 : KnOut (m * 2 ^ s) (n * 2 ^ s) (List.replicate (la + 1 - N) 0) U0 (la + 1 - N) :=
    kn_begin (val_replicate _) HU4.out HM.out hNM (by have h1 := HS1.out; have : 2 ^ s ≤ 2 ^ 31 := Nat.pow_le_pow_right (by omega) h1; omega) HS2.out (by omega) (fun i => getD_replicate _ i)
  have HK0 := Lib.hid KO0; clear KO0 hU4 cT cS hNi1 hNi2 hNi3 R0 B0 hV hVl2 hRl hB13 HR1 htop hB1 hcb hcam hcbm hca
  generalize w3.heap.size = gq at *
  clear hB3
  have hM0' := Lib.hid hM0
  clear hM0; go_wp2_with fail
  generalize hqn : la + 1 - N = qn at *
  have HQN := Lib.hid hqn; clear hqn
  go_loopw [13] (fun j wr => ∃ (k : Nat) (U Q : List Nat), k ≤ qn ∧ j = .int .i64 ((k : Int) - 1) ∧ Hid (LongMem w wr gu capu gv capv gq qn ys U Q) ∧ Hid (U.length = la + 1) ∧ Hid (Q.length = qn) ∧
      Hid (KnOut (m * 2 ^ s) (n * 2 ^ s) Q U k)) (fun j _ => (intOf j + 1).toNat)
  case atStart => exact ⟨qn, _, _, Nat.le_refl _, rfl, hM0', HU3, by show _ = _; simp, HK0⟩
  case round =>
    obtain ⟨k, U, Q, hk, rfl, hM, hUl, hQl, hKO⟩ := hrel
    by_cases hk1 : 1 ≤ k
    · obtain ⟨j, rfl⟩ : ∃ j, k = j + 1 := ⟨k - 1, by omega⟩
      have hjN : j + N ≤ la := by have := HQN.out; omega
      have hMo := hM.out
      obtain ⟨k1, ⟨KT⟩, k3, k4, k5, k6⟩ := kn_head hKO.out hMo.u.dig hdY HY1.out hN hUl.out hjN HYV.out ET.out ES.out hT2
      have cU1 := hMo.u.cell (j := j + N) (by rw [hUl.out]; omega)
      have cU0 := hMo.u.cell (j := j + N - 1) (by rw [hUl.out]; omega)
      have cU2 := hMo.u.cell (j := j + N - 2) (by rw [hUl.out]; omega)
      have d1 := dig_get hMo.u.dig (j + N)
      have d0 := dig_get hMo.u.dig (j + N - 1)
      have d2 := dig_get hMo.u.dig (j + N - 2)
      obtain ⟨h1, eh1⟩ : ∃ x, x = U.getD (j + N) 0 := ⟨_, rfl⟩; obtain ⟨h0, eh0⟩ : ∃ x, x = U.getD (j + N - 1) 0 := ⟨_, rfl⟩; obtain ⟨u2, eu2⟩ : ∃ x, x = U.getD (j + N - 2) 0 := ⟨_, rfl⟩; rw [← eh1] at cU1 d1 k1; rw [← eh0] at cU0 d0; rw [← eu2] at cU2 d2; rw [← eh1, ← eh0, ← eu2] at KT; have HU1 := Lib.hid eh1; have HU2 := Lib.hid eu2
      have hor := high_or h0 h1 d0 d1
      have KG0 := kng_start KT (by omega) d2
      obtain ⟨first, efi⟩ : ∃ x, x = h0 + 4294967296 * h1 := ⟨_, rfl⟩; have HFI := Lib.hid efi; have hfb : first < 18446744073709551616 := (by omega); rw [← efi] at hor KG0; have ej : ((j + 1 : Nat) : Int) - 1 = (j : Int) := (by omega); rw [ej]; have HKG0 := Lib.hid KG0; have HK1 := Lib.hid k1; have HK3 := Lib.hid k3; have HK4 := Lib.hid k4; have HK5 := Lib.hid k5; have HK6 := Lib.hid k6; clear eh1 eh0 eu2 efi ej KG0 k1 k3 k4 k5 k6 hMo hk; have ib1 : (j : Int) + (N : Int) < (la : Int) + 1 := (by omega); have ib2 : (j : Int) + (N : Int) - 1 < (la : Int) + 1 := (by omega); have ib3 : (j : Int) + (N : Int) - 2 < (la : Int) + 1 := (by omega); have ib4 : (0 : Int) ≤ (j : Int) + (N : Int) - 1 := (by omega); have ib5 : (0 : Int) ≤ (j : Int) + (N : Int) - 2 := (by omega)
      have htz : ((top : Int) == 0) = false := by rw [beq_eq_false_iff_ne]; omega
      have e1 : (first : Int) / (top : Int) = ((first / top : Nat) : Int) := by rw [Int.natCast_ediv]
      have e2 : (first : Int) % (top : Int) = ((first % top : Nat) : Int) := by rw [Int.natCast_emod]
      have hfq : first / top ≤ 8589934592 := by
        have : first / top < 8589934593 := by
          rw [Nat.div_lt_iff_lt_mul (by omega)]; omega
        omega
      have hfr : first % top < top := Nat.mod_lt _ (by omega)
      have q1 : (first : Int) / (top : Int) ≤ 8589934592 := by rw [e1]; omega
      have q2 : (0 : Int) ≤ (first : Int) / (top : Int) := by rw [e1]; exact Int.natCast_nonneg _
      have q3 : (0 : Int) ≤ (first : Int) % (top : Int) := by rw [e2]; exact Int.natCast_nonneg _
      have q4 : (first : Int) % (top : Int) < 4294967296 := by rw [e2]; omega
      have E1 := Lib.hid e1; have E2 := Lib.hid e2; clear e1 e2; go_wp2_with fail
      go_quiet (fail)
      go_wp2_with fail
      go_quiet (fail)
      go_upto_block 2 with fail
      go_cut [15, 16] from 67 to 229 (fun g r wx => ∃ guess rest : Nat, g = .int .u64 guess ∧ r = .int .u64 rest ∧ guess < 4294967296 ∧ Hid (LongMem w wx gu capu gv capv gq qn ys U Q) ∧ Hid (val U / 4294967296 ^ j / (n * 2 ^ s) ≤ guess) ∧ Hid (guess ≤ val U / 4294967296 ^ j / (n * 2 ^ s) + 1))
      case first =>
        go_wp2_with fail
        go_loopw [15, 16] (fun g r wx => ∃ guess rest : Nat, g = .int .u64 guess ∧ r = .int .u64 rest ∧ guess ≤ 8589934592 ∧ rest < 4294967296 ∧ Hid (LongMem w wx gu capu gv capv gq qn ys U Q) ∧ Hid (KnG (val U / 4294967296 ^ j / (n * 2 ^ s)) top first guess rest)) (fun g _ _ => (intOf g).toNat)
        case atStart => exact ⟨first / top, first % top, by rw [E1.out], by rw [E2.out], hfq, by omega, (hM.out.drewN _).drewN _, HKG0⟩
        case round =>
          obtain ⟨guess, rest, rfl, rfl, hgb, hrb, hMx, hKG⟩ := hrel
          have cU2' := hMx.out.u.cell (j := j + N - 2) (by rw [hUl.out]; omega)
          rw [← HU2.out] at cU2'
          have hKG2 := hKG.out
          rw [HFI.out] at hKG2
          have hor2 := high_or u2 rest d2 hrb
          obtain ⟨lim, elim⟩ : ∃ x, x = u2 + 4294967296 * rest := ⟨_, rfl⟩; rw [← elim] at hor2; have hlb : lim < 18446744073709551616 := (by omega); have HLIM := Lib.hid elim; clear elim hor cU1 cU0 cU2
          by_cases hA : 4294967296 ≤ guess
          · obtain ⟨b1, b2⟩ := hi_one (x := (guess : Int)) (by omega)
            · -- too great by itself
              have hq := kng_down KT hKG2 HK3.out (.inl hA)
              have KG' := kng_less hKG2 hq
              rw [← HFI.out] at KG'
              have HKG' := Lib.hid KG'
              have hg1' : 1 ≤ guess := Nat.lt_of_le_of_lt (Nat.zero_le _) hq
              have HQ1 := Lib.hid hq; clear hq; have hg1 : (1 : Int) ≤ (guess : Int) := (by omega)
              by_cases hbr : 4294967296 ≤ rest + top
              · have hone := kng_one KG' HFI.out d0 HK1.out hbr
                have hex := kng_b KT (by rw [← HFI.out]; exact KG') hone hS hbr HK5.out
                have HONE := Lib.hid hone; have HEX := Lib.hid hex; obtain ⟨b3, b4⟩ := hi_one (x := (rest : Int) + (top : Int)) (by omega); clear hone hex KG' hKG2 hbr; go_wp2; go_meet
                case rel => exact ⟨guess - 1, rest + top, by go_num, by go_num, HONE.out, hMx, HKG'.out.2, HEX.out⟩
              · have b3 := hi_zero (x := (rest : Int) + (top : Int)) (by omega) (by omega)
                have hbr' : rest + top < 4294967296 := (by omega); clear KG' hKG2 hbr; go_wp2
                go_roundw
                case rel => exact ⟨guess - 1, rest + top, by go_num, by go_num, by omega, hbr', hMx, HKG'⟩
                case measure => simp [intOf]; omega
          · have b1 := hi_zero (x := (guess : Int)) (by omega) (by omega)
            have hgl : guess < 4294967296 := (by omega)
            have hmi := mul_int hgl hS
            by_cases hC : lim < guess * second
            · have hCi : (lim : Int) < (guess : Int) * (second : Int) := by rw [← Int.natCast_mul]; omega
              have hq := kng_down KT hKG2 HK3.out (.inr (by rw [← Nat.mul_comm 4294967296 rest, Nat.add_comm, ← HLIM.out]; exact hC))
              have KG' := kng_less hKG2 hq
              rw [← HFI.out] at KG'
              have HKG' := Lib.hid KG'
              have hg1' : 1 ≤ guess := Nat.lt_of_le_of_lt (Nat.zero_le _) hq
              have HQ1 := Lib.hid hq; clear hq; have hg1 : (1 : Int) ≤ (guess : Int) := (by omega)
              by_cases hbr : 4294967296 ≤ rest + top
              · have hone := kng_one KG' HFI.out d0 HK1.out hbr
                have hex := kng_b KT (by rw [← HFI.out]; exact KG') hone hS hbr HK5.out
                have HONE := Lib.hid hone; have HEX := Lib.hid hex; obtain ⟨b3, b4⟩ := hi_one (x := (rest : Int) + (top : Int)) (by omega); clear hone hex KG' hKG2 hbr; go_wp2; go_meet
                case rel => exact ⟨guess - 1, rest + top, by go_num, by go_num, HONE.out, hMx, HKG'.out.2, HEX.out⟩
              · have b3 := hi_zero (x := (rest : Int) + (top : Int)) (by omega) (by omega)
                have hbr' : rest + top < 4294967296 := (by omega); clear KG' hKG2 hbr; go_wp2
                go_roundw
                case rel => exact ⟨guess - 1, rest + top, by go_num, by go_num, by omega, hbr', hMx, HKG'⟩
                case measure => simp [intOf]; omega
            · have hCi : decide ((lim : Int) < (guess : Int) * (second : Int)) = false := by
                rw [decide_eq_false_iff_not, ← Int.natCast_mul]; omega
              have hex := kng_a KT hKG2 (by omega) hgl (by rw [Nat.mul_comm rest, Nat.add_comm, ← HLIM.out]; omega)
              have HEX := Lib.hid hex; clear hex hC hKG2 KT hfq hfr q1 q2 q3 q4 ib1 ib2 ib3 ib4; go_wp2_with fail; go_meet
              case rel => exact ⟨guess, rest, rfl, rfl, hgl, hMx, hKG.out.2, HEX.out⟩
      case rest =>
        obtain ⟨guess, rest, rfl, rfl, hgl, hMc, hge, hle⟩ := hcut; clear hor cU1 cU0 cU2 KT hfq hfr q1 q2 q3 q4 HKG0 HFI hfb HU2 htz ib2 ib3 ib4 ib5 hM; go_wp2_with fail
        go_loopw [17, 18, 124] (fun b c i wr => ∃ (k bn cn : Nat) (U' : List Nat), k ≤ N ∧ i = .int .i64 k ∧ b = .int .u64 bn ∧ c = .int .u64 cn ∧ bn ≤ 1 ∧ cn < 4294967296 ∧ Hid (LongMem w wr gu capu gv capv gq qn ys U' Q) ∧ Hid (U'.length = la + 1) ∧
            Hid (KnSub (val U) ys U' j N guess h1 k bn cn)) (fun _ _ i _ => N - (intOf i).toNat)
        case atStart => exact ⟨0, 0, 0, U, by omega, rfl, rfl, rfl, by omega, by omega, hMc, hUl, HK4.out, HU1.out.symm, by simp [val_nil]⟩
        case round =>
          obtain ⟨k, bn, cn, U', hk, rfl, rfl, rfl, hbn, hcn, hMd, hUl', hS3⟩ := hrel; clear hMc
          by_cases hlt : k < N
          · have cV := hMd.out.v.cell (j := k) (by rw [HY1.out]; exact hlt)
            have cU := hMd.out.u.cell (j := j + k) (by rw [hUl'.out]; omega)
            have fU := hMd.out.u.free (j + k)
            have dd := dig_get hdY k
            have du := dig_get hMd.out.u.dig (j + k)
            obtain ⟨d, ed⟩ : ∃ x, x = ys.getD k 0 := ⟨_, rfl⟩; obtain ⟨u, eu⟩ : ∃ x, x = U'.getD (j + k) 0 := ⟨_, rfl⟩; rw [← ed] at cV dd; rw [← eu] at cU du
            have hst := fun x b' he => KnSub.step (x := x) (b' := b') hS3.out hlt HY1.out hUl'.out hjN eu ed he
            clear ed eu; obtain ⟨hc1, hc2⟩ := kn_carry hcn hgl dd
            have hmi := mul_int hgl dd
            have hand := and_low _ hc1
            have et : ((cn + guess * d : Nat) : Int) = (cn : Int) + (guess : Int) * (d : Int) := by rw [Int.natCast_add, Int.natCast_mul]
            rw [et] at hand
            have hdv : ((cn : Int) + (guess : Int) * (d : Int)) / 4294967296 = (((cn + guess * d) / 4294967296 : Nat) : Int) := by rw [← et, Int.natCast_ediv]; rfl
            have hlo : (cn + guess * d) % 4294967296 < 4294967296 := Nat.mod_lt _ (by omega)
            generalize (cn + guess * d) % 4294967296 = lo at *
            generalize (cn + guess * d) / 4294967296 = hi at *
            clear et hc1; have ib : (j : Int) + (k : Int) < (la : Int) + 1 := (by omega)
            by_cases hge : lo + bn ≤ u
            · have HST := Lib.hid (hst (u - lo - bn) 0 (by omega)); clear hst; have hgi : (0 : Int) ≤ (u : Int) - (lo : Int) := (by omega); have hgi2 : (0 : Int) ≤ (u : Int) - (lo : Int) - (bn : Int) := (by omega); go_wp2_with fail
              go_roundw
              case rel =>
                rw [show (u : Int) - (lo : Int) - (bn : Int) = ((u - lo - bn : Nat) : Int) by omega, show ((u - lo - bn : Nat) : Int) / 9223372036854775808 = ((0 : Nat) : Int) by omega]
                exact ⟨k + 1, 0, hi, _, by omega, by go_num, rfl, rfl, by omega, hc2, hMd.out.setU (j + k) (by omega), by show _ = _; rw [List.length_set]; exact hUl'.out, HST.out⟩
              case measure => simp [intOf]; omega
            · have HST := Lib.hid (hst (u + 4294967296 - lo - bn) 1 (by omega)); clear hst; have hgn : (u : Int) - (lo : Int) - (bn : Int) < 0 := (by omega); obtain ⟨hw1, hw2⟩ := wrap_two du hlo hbn (by omega); have HW1 := Lib.hid hw1; have HW2 := Lib.hid hw2; clear hw1 hw2; go_wp2_with fail
              go_roundw
              case rel =>
                rw [HW1.out, HW2.out]
                exact ⟨k + 1, 1, hi, _, by omega, by go_num, rfl, rfl, by omega, hc2, hMd.out.setU (j + k) (by omega), by show _ = _; rw [List.length_set]; exact hUl'.out, HST.out⟩
              case measure => simp [intOf]; omega
          · obtain rfl : N = k := by omega
            have cU := hMd.out.u.cell (j := j + N) (by rw [hUl'.out]; omega)
            have fU := hMd.out.u.free (j + N)
            rw [hS3.out.2.1] at cU
            have hjq : j < qn := by have := HQN.out; omega
            have cQ := hMd.out.q.cell (j := j) (by rw [hQl.out]; exact hjq)
            have fQ := hMd.out.q.free j
            have hjq2 : (j : Int) < (qn : Int) := (by omega)
            generalize Q.getD j 0 = zq at *
            by_cases hge2 : cn + bn ≤ h1
            · have HKO := Lib.hid (kn_nb hKO.out hS3.out HY1.out HYV.out HK5.out hUl'.out hjN hcn (x := h1 - cn - bn) (by omega) hge.out (by rw [hQl.out]; exact hjq))
              have hgi : (0 : Int) ≤ (h1 : Int) - (cn : Int) := (by omega); have hgi2 : (0 : Int) ≤ (h1 : Int) - (cn : Int) - (bn : Int) := (by omega); have hz63 : ((h1 : Int) - (cn : Int) - (bn : Int)) / 9223372036854775808 = 0 := (by omega); go_wp2_with fail
              go_roundw
              case rel =>
                rw [show (h1 : Int) - (cn : Int) - (bn : Int) = ((h1 - cn - bn : Nat) : Int) by omega]
                exact ⟨j, _, _, by omega, rfl, (hMd.out.setU (j + N) (by omega)).setQ j hgl, by show _ = _; rw [List.length_set]; exact hUl'.out, by show _ = _; rw [List.length_set]; exact hQl.out, HKO.out⟩
              case measure => simp [intOf]
            · have HWB := Lib.hid (kn_wb hS3.out HY1.out HYV.out hUl'.out hjN hcn (x := h1 + 4294967296 - cn - bn) (by omega) (by omega) hMd.out.u.dig hge.out hle.out); obtain ⟨hw1, hw2⟩ := wrap_two d1 hcn hbn (by omega)
              have hw3 : IntKind.u64.wrap (IntKind.u64.wrap ((h1 : Int) - (cn : Int)) - (bn : Int)) / 9223372036854775808 = 1 := hw2
              clear hw2; have hM3 := Lib.hid ((hMd.out.setU (j + N) (show h1 + 4294967296 - cn - bn < 4294967296 by omega)).setQ j hgl)
              go_upto_region 30 with fail
              clear hw1 hw3
              revert hM3
              generalize (wr.setCell { block := gu, off := j + N } (.int .u32 ((h1 + 4294967296 - cn - bn : Nat) : Int))).setCell { block := gq, off := j } (.int .u32 (guess : Int)) = wz
              intro hM3; obtain ⟨xx, exx⟩ : ∃ x, x = h1 + 4294967296 - cn - bn := ⟨_, rfl⟩; have hxx : xx < 4294967296 := (by omega); rw [← exx] at hM3 HWB; obtain ⟨U2, eU2⟩ : ∃ x, x = U'.set (j + N) xx := ⟨_, rfl⟩; rw [← eU2] at hM3 HWB
              have hU2l : Hid (U2.length = la + 1) := by show _ = _; rw [eU2, List.length_set]; exact hUl'.out
              have cQ2 := hM3.out.q.cell (j := j) (by rw [List.length_set, hQl.out]; exact hjq)
              rw [set_getD_eq _ _ _ (by rw [hQl.out]; exact hjq)] at cQ2
              have fQ2 := hM3.out.q.free j
              have hg1' : 1 ≤ guess := by rw [HWB.out.1]; exact Nat.le_add_left _ _
              have hg1 : (1 : Int) ≤ (guess : Int) := (by omega)
              have hM4 := hM3.out.setQ j (d := guess - 1) (by omega)
              rw [List.set_set, show ((guess - 1 : Nat) : Int) = (guess : Int) - 1 by omega] at hM4
              have HM4 := Lib.hid hM4; have HEXX := Lib.hid exx; clear hM4 exx eU2 cU fU cQ fQ hS3 hMd hge2 hM3; go_wp2_with fail
              go_loopw [18, 193] (fun c i wr => ∃ (k cn : Nat) (U3 : List Nat), k ≤ N ∧ i = .int .i64 k ∧ c = .int .u64 cn ∧ cn ≤ 1 ∧ Hid (LongMem w wr gu capu gv capv gq qn ys U3 (Q.set j (guess - 1))) ∧ Hid (U3.length = la + 1) ∧
                  Hid (KnAdd (val U2) ys U3 j N xx k cn)) (fun _ i _ => N - (intOf i).toNat)
              case atStart => exact ⟨0, 0, U2, by omega, rfl, rfl, by omega, HM4, hU2l, HWB.out.2.1, HWB.out.2.2.1, by simp [val_nil]⟩
              case round =>
                obtain ⟨k, cc, U3, hk, rfl, rfl, hcc, hM5, hU3l, hA⟩ := hrel; clear HM4 cQ2 fQ2
                by_cases hlt : k < N
                · have cV := hM5.out.v.cell (j := k) (by rw [HY1.out]; exact hlt)
                  have cU := hM5.out.u.cell (j := j + k) (by rw [hU3l.out]; omega)
                  have fU := hM5.out.u.free (j + k)
                  have dd := dig_get hdY k
                  have du := dig_get hM5.out.u.dig (j + k)
                  obtain ⟨d, ed⟩ : ∃ x, x = ys.getD k 0 := ⟨_, rfl⟩; obtain ⟨u, eu⟩ : ∃ x, x = U3.getD (j + k) 0 := ⟨_, rfl⟩; rw [← ed] at cV dd; rw [← eu] at cU du; have HST := Lib.hid (KnAdd.step hA.out hlt HY1.out hU3l.out hjN eu ed); clear ed eu; have ib : (j : Int) + (k : Int) < (la : Int) + 1 := (by omega); go_wp2_with fail
                  go_roundw
                  case rel =>
                    have e0 : (cc : Int) + ((u : Int) + (d : Int)) = ((cc + (u + d) : Nat) : Int) := (by omega)
                    rw [e0, show ((cc + (u + d) : Nat) : Int) % 4294967296 = (((cc + (u + d)) % 4294967296 : Nat) : Int) by omega]
                    exact ⟨k + 1, (cc + (u + d)) / 4294967296, _, by omega, by go_num, by go_num, by omega, hM5.out.setU (j + k) (Nat.mod_lt _ (by omega)), by show _ = _; rw [List.length_set]; exact hU3l.out, HST.out⟩
                  case measure => simp [intOf]; omega
                · obtain rfl : N = k := by omega
                  have cU := hM5.out.u.cell (j := j + N) (by rw [hU3l.out]; omega)
                  have fU := hM5.out.u.free (j + N)
                  rw [hA.out.2.1] at cU; have hq1 : guess - 1 + 1 = guess := (by omega)
                  have hq2 : guess - 1 = val U / 4294967296 ^ j / (n * 2 ^ s) := by rw [HWB.out.1]; rfl
                  have HKO := Lib.hid (kn_ab (q := guess - 1) hKO.out hA.out (by rw [hq1]; exact HWB.out.2.2.2) HY1.out HYV.out HK5.out HK6.out hU3l.out hjN hM5.out.u.dig hq2 (by rw [hQl.out]; exact hjq))
                  clear hq2; go_wp2_with fail
                  go_roundw
                  case rel =>
                    have e0 : ((xx : Int) + (cc : Int)) % 4294967296 = (((xx + cc) % 4294967296 : Nat) : Int) := (by omega); rw [e0]
                    exact ⟨j, _, _, by omega, rfl, hM5.out.setU (j + N) (Nat.mod_lt _ (by omega)), by show _ = _; rw [List.length_set]; exact hU3l.out, by show _ = _; rw [List.length_set]; exact hQl.out, HKO.out⟩
                  case measure => simp [intOf]
    · obtain rfl : k = 0 := by omega
      obtain ⟨e1, e2, e3⟩ := kn_end hKO.out (Nat.pow_pos (n := s) (by omega))
      have hMo := hM.out
      have hql := hMo.q.cap
      have hul := hMo.u.cap
      have hRq : ∀ W : World, Below wr.heap.size wr W → Calls Tryz.prog 191 #[.slice (some ⟨gq, 0, none⟩) qn qn] W fun e W' => ∃ v, e = .returned v ∧ Own W w.heap.size v (nf (m / n)) ∧ W = W' := fun W hb => by
        rw [← e1]; exact trim_row W _ _ _ _ _ (hMo.q.keep hb) hQl.out
      have hNl : (U.take N).length = N := by rw [List.length_take, hUl.out]; omega
      have hvt : val (U.take N) / 2 ^ s = m % n := by
        rw [val_eq_take (zero_above (Nat.lt_trans e3 (by have := val_lt ys hdY; rw [HY1.out, HYV.out] at this; exact this))), e2]
      have hRu : ∀ W : World, Below wr.heap.size wr W → Calls Tryz.prog 295 #[.slice (some ⟨gu, 0, none⟩) N capu, .int .u64 (s : Int)] W fun e W' => ∃ z, e = .returned z ∧ Own W' W.heap.size z (nf (m % n)) ∧ Below W.heap.size W W' := fun W hb => by
        rw [← hvt]
        have hk := hMo.u.keep hb
        have ht := Own.take hk N (by rw [hUl.out]; omega)
        refine shr_any W _ _ s ht.rd (by rw [hNl]; omega) (by omega)
      have HT := Lib.hid hRq; have HS := Lib.hid hRu; have HB := Lib.hid hMo.below; rw [hUl.out] at hul
      have hul2 : la + 1 ≤ capu := hul.1
      have hNi : (N : Int) ≤ (capu : Int) := (by omega); clear hRq hRu hMo e1 e2 e3 hvt hNl hM hKO hQl hUl hql hul
      go_upto_region 40 with fail
      go_region_with (first | (go_at_call 191; go_loud (refine (HT.out _ (by first | exact Below.refl _ _ | exact blw_drewN (Below.refl _ _) _ | exact hbS)).mono ?_); rintro e wT ⟨vT, rfl, hvT, rfl⟩) | (go_at_call 295; go_loud (refine (HS.out _ (by first | exact Below.refl _ _ | exact blw_drewN (Below.refl _ _) _)).mono ?_); rintro e wS ⟨vS, rfl, hvS, hbS⟩))
      all_goals (go_wp2_with fail)
      all_goals (rw [Exit.noGoto_ret])
      all_goals go_ret2
      all_goals (refine ⟨_, _, rfl, ?_, ?_, ?_⟩)
      all_goals first
        | exact (hvT.keep hbS)
        | exact hvT
        | exact hvS.mono HB.out.size
        | exact (hvS.keep (Below.refl _ _)).mono HB.out.size
        | exact blw_trans HB.out hbS
        | exact blw_trans (b := wr.drew) HB.out.drew hbS
        | exact blw_trans (b := wr.drew) (blw_drewN HB.out 1) hbS
end
section
theorem gcd_small {m : Nat} (h : (nf m).length ≤ 2) : m < 18446744073709551616 := by
  have := lt_of_nf_len h
  omega
theorem gcd_step {p q g : Nat} (hq : q ≠ 0) (h : Nat.gcd p q = g) : Nat.gcd q (p % q) = g ∧ p % q < q := by
  refine ⟨?_, Nat.mod_lt _ (by omega)⟩
  rw [← h, Nat.gcd_comm p q, Nat.gcd_rec q p, Nat.gcd_comm]
theorem gcd_any (w : World) (u v : Value) (la lb : List Nat) (hu : Rd w u la) (hv : Rd w v lb) (hla : la.length ≤ 1000000) (hlb : lb.length ≤ 1000000) :
    Calls Tryz.prog 249 #[u, v] w fun e w' => ∃ z, e = .returned z ∧ Own w' w.heap.size z (nf (Nat.gcd (val la) (val lb))) ∧ Below w.heap.size w w' := by
  have hna := nf_val_len hu.dig
  have hnb := nf_val_len hv.dig
  have CA := Lib.hid (norm_any _ _ _ hu hla); have CB := Lib.hid (fun (w1 : World) (b : Below w.heap.size w w1) => norm_any w1 _ _ (hv.keep b) hlb); have hLA := Lib.hid (Nat.le_trans hna hla); have hLB := Lib.hid (Nat.le_trans hnb hlb); clear hu hv hna hnb hla hlb
  generalize val la = m at *
  generalize val lb = n at *
  go_enter Tryz.func249, Tryz.ntmps249; go_wp2_with fail
  refine CA.out.mono ?_
  rintro e w1 ⟨x, rfl, hx, b1⟩
  go_wp2_with fail
  refine (CB.out _ b1).mono ?_
  rintro e w2 ⟨y, rfl, hy, b2⟩
  have hX := Lib.hid (hx.keep b2); have hY := Lib.hid (hy.mono b1.size); have hB := Lib.hid (blw_trans b1 b2); clear hx hy b1 b2 CA CB; go_wp2_with fail
  go_loopw [0, 1] (fun x y wr => ∃ p q : Nat, Hid (Own wr w.heap.size x (nf p)) ∧ Hid (Own wr w.heap.size y (nf q)) ∧ Hid (Below w.heap.size w wr) ∧ Hid (Nat.gcd p q = Nat.gcd m n) ∧ Hid ((nf p).length ≤ 1000000) ∧ Hid ((nf q).length ≤ 1000000)) (fun _ y wr => rdVal wr y)
  case atStart => exact ⟨m, n, hX, hY, hB, rfl, hLA, hLB⟩
  case round =>
    obtain ⟨p, q, hP, hQ, hW, hG, hlp, hlq⟩ := hrel; clear hX hY hB hLA hLB; obtain ⟨ax, cx, rfl, hcx, hcx2, _, _⟩ := hP.out.rd; obtain ⟨ay, cy, rfl, hcy, hcy2, _, _⟩ := hQ.out.rd
    by_cases hbig : 2 < (nf p).length ∨ 2 < (nf q).length
    · by_cases hq : q = 0
      · have h0 : (nf q).length = 0 := by rw [hq]; rfl
        have h1 : 2 < (nf p).length := (by omega)
        have HE : Hid (p = Nat.gcd m n) := by show _ = _; rw [← hG.out, hq, Nat.gcd_zero_right]
        have hb : (((nf q).length : Int) == 0) = true := by rw [h0]; rfl
        clear hbig hq h0; go_wp2; go_ret
        exact ⟨_, rfl, by rw [← HE.out]; exact hP.out, hW.out⟩
      · have hp := nf_len_pos hq
        have hb : (((nf q).length : Int) == 0) = false := by rw [beq_eq_false_iff_ne]; omega
        obtain ⟨g1, g2⟩ := gcd_step hq hG.out; have HG := Lib.hid g1; have HL := Lib.hid g2; have HI := Lib.hid (show (if q = 0 then 0 else p % q) = p % q from if_neg hq); clear g1 g2 hq hp
        by_cases h1 : 2 < (nf p).length
        all_goals
          go_wp2_with fail
          refine (divmod_any _ _ _ _ _ hP.out.rd hQ.out.rd hlp.out (.inr long_any)).mono ?_
          rintro e w3 ⟨qq, r, rfl, _, hr, b3⟩
          simp only [val_nf] at hr; rw [HI.out] at hr; have HR := Lib.hid (hr.mono hW.out.size)
          have hV : rdVal wr (.slice ay (nf q).length cy) = q := by rw [rdVal_eq hQ.out.rd, val_nf]
          have hV2 : rdVal w3 r = p % q := by rw [rdVal_eq hr.rd, val_nf]
          have HV := Lib.hid hV; have HV2 := Lib.hid hV2; have HB3 := Lib.hid b3; clear hr hV hV2 b3; go_wp2_with fail
          go_roundw
          case rel => exact ⟨q, p % q, hQ.out.keep HB3.out, HR, blw_trans hW.out HB3.out, HG, hlq, len_le (Nat.mod_le _ _) hlp.out⟩
          case measure => rw [HV.out, HV2.out]; exact HL.out
    · have h1 : (nf p).length ≤ 2 := by omega
      have h2 : (nf q).length ≤ 2 := (by omega)
      have hp := gcd_small h1
      have hq := gcd_small h2
      clear hbig; go_wp2_with fail
      refine (uint_any _ _ _ hP.out.rd).mono ?_
      rintro e w3 ⟨rfl, rfl⟩
      rw [val_nf, uintV_lt hp]; go_wp2_with fail
      refine (uint_any _ _ _ hQ.out.rd).mono ?_
      rintro e w3 ⟨rfl, rfl⟩
      rw [val_nf, uintV_lt hq]; go_wp2_with fail
      go_loopw [8, 10] (fun x y wx => ∃ p q : Nat, x = .int .u64 p ∧ y = .int .u64 q ∧ p < 18446744073709551616 ∧ q < 18446744073709551616 ∧ Hid (Below w.heap.size w wx) ∧ Hid (Nat.gcd p q = Nat.gcd m n)) (fun _ y _ => (intOf y).toNat)
      case atStart => exact ⟨p, q, rfl, rfl, hp, hq, hW, hG⟩
      case round =>
        obtain ⟨p2, q2, rfl, rfl, hp2, hq2, hW2, hG2⟩ := hrel
        by_cases h0 : q2 = 0
        · have HE : Hid (p2 = Nat.gcd m n) := by show _ = _; rw [← hG2.out, h0, Nat.gcd_zero_right]
          have hb : (((q2 : Nat) : Int) != 0) = false := by rw [h0]; rfl
          clear h0; go_wp2_with fail
          refine (fromUint_any _ p2 hp2).mono ?_
          rintro e w4 ⟨z, rfl, hz, b4⟩
          go_wp2; go_ret
          exact ⟨_, rfl, by rw [← HE.out]; exact hz.mono hW2.out.size, blw_trans hW2.out b4⟩
        · obtain ⟨g1, g2⟩ := gcd_step h0 hG2.out; have HG := Lib.hid g1; have HL := Lib.hid g2
          have hb : (((q2 : Nat) : Int) != 0) = true := by rw [bne_iff_ne]; omega
          have hb0 : (((q2 : Nat) : Int) == 0) = false := by rw [beq_eq_false_iff_ne]; omega
          have e2 : (p2 : Int) % (q2 : Int) = ((p2 % q2 : Nat) : Int) := by rw [Int.natCast_emod]
          have E2 := Lib.hid e2
          have HQ1 : Hid ((1 : Int) ≤ (q2 : Int)) := by show _ ≤ _; omega
          have r1 : (0 : Int) ≤ (p2 : Int) % (q2 : Int) := by rw [e2]; exact Int.natCast_nonneg _
          have r2 : (p2 : Int) % (q2 : Int) < 18446744073709551616 := by rw [e2]; omega
          clear g1 g2 e2 h0; go_wp2_with fail; clear hb hb0
          have hq1 : (1 : Int) ≤ (q2 : Int) := HQ1.out
          have hq0 : ((q2 : Int) == 0) = false := by rw [beq_eq_false_iff_ne]; omega
          have hqz : ¬ (q2 = 0) := (by omega)
          go_quiet (fail)
          go_wp2_with fail
          go_roundw
          case rel => rw [E2.out]; exact ⟨q2, p2 % q2, rfl, rfl, hq2, Nat.lt_trans HL.out hq2, blw_drewN hW2.out _, HG⟩
          case measure => rw [E2.out]; have := HL.out; simp [intOf]; omega
end
section
def Nn (w : World) (v : Value) (n k : Nat) : Prop := Rd w v (nf n) ∧ (nf n).length ≤ k
def Rr (w : World) (v : Value) (n k : Nat) : Prop := ∃ l, Rd w v l ∧ val l = n ∧ l.length ≤ k
theorem Nn.rr {w : World} {v : Value} {n k : Nat} (h : Nn w v n k) : Rr w v n k := ⟨_, h.1, val_nf _, h.2⟩
theorem Nn.keep {w w' : World} {v : Value} {n k : Nat} (h : Nn w v n k) (hb : Below w.heap.size w w') : Nn w' v n k := ⟨h.1.keep hb, h.2⟩
theorem Rr.keep {w w' : World} {v : Value} {n k : Nat} (h : Rr w v n k) (hb : Below w.heap.size w w') : Rr w' v n k := by
  obtain ⟨l, h1, h2⟩ := h; exact ⟨l, h1.keep hb, h2⟩
theorem Nn.mono {w : World} {v : Value} {n k k' : Nat} (h : Nn w v n k) (hk : k ≤ k') : Nn w v n k' := ⟨h.1, Nat.le_trans h.2 hk⟩
theorem Nn.nil (w : World) (k : Nat) : Nn w (.slice none 0 0) 0 k := ⟨Rd.nil w, by simp [nf_zero]⟩
theorem Nn.of_own {w : World} {base : Nat} {v : Value} {n k : Nat} (h : Own w base v (nf n)) (hk : (nf n).length ≤ k) : Nn w v n k := ⟨h.rd, hk⟩
theorem Rr.of_rd {w : World} {v : Value} {l : List Nat} {k : Nat} (h : Rd w v l) (hk : l.length ≤ k) : Rr w v (val l) k := ⟨l, h, rfl, hk⟩
theorem Nn.lit {w : World} {v : Value} {n k : Nat} {l : List Nat} (h : Rd w v l) (e : nf n = l) (hk : l.length ≤ k) : Nn w v n k := by
  subst e; exact ⟨h, hk⟩
theorem Nn.shape {w : World} {v : Value} {n k : Nat} (h : Nn w v n k) : ∃ a cap, v = .slice a (nf n).length cap ∧ (nf n).length ≤ cap ∧ cap ≤ 9223372036854775807 ∧ (nf n).length ≤ k := by
  obtain ⟨⟨a, cap, e, h1, h2, _⟩, hk⟩ := h; exact ⟨a, cap, e, h1, h2, hk⟩
theorem nflen_pos {n : Nat} : 0 < (nf n).length ↔ n ≠ 0 := by
  constructor
  · intro h e; subst e; simp [nf_zero] at h
  · exact nf_len_pos
def RetN (w : World) (n k : Nat) (e : Ending) (w' : World) : Prop := ∃ a l c, e = .returned (.slice a l c) ∧ Nn w' (.slice a l c) n k ∧ Below w.heap.size w w'
theorem RetN.mk {w w' : World} {n k : Nat} {v : Value} (h : Nn w' v n k) (hb : Below w.heap.size w w') : RetN w n k (.returned v) w' := by
  obtain ⟨a, c, rfl, _⟩ := h.shape; exact ⟨a, _, c, rfl, h, hb⟩
theorem Nn.len {w : World} {a : Option Addr} {l c n k : Nat} (h : Nn w (.slice a l c) n k) : l = (nf n).length := by
  obtain ⟨a', c', e, _⟩ := h.shape
  injection e
section
variable {w : World} {u v : Value} {m n km kn : Nat}
theorem normW (hu : Rr w u m km) (hk : km ≤ 900000) : Calls Tryz.prog 216 #[u] w (RetN w m km) := by
  obtain ⟨l, h, rfl, hl⟩ := hu
  refine (norm_any _ _ _ h (by omega)).mono ?_
  rintro e w' ⟨z, rfl, hz, hb⟩
  exact .mk (.of_own hz (Nat.le_trans (nf_val_len h.dig) hl)) hb
theorem len_addM {m n a b : Nat} (h1 : (nf m).length ≤ a) (h2 : (nf n).length ≤ b) : (nf (m + n)).length ≤ max a b + 1 := by
  have h3 := lt_of_nf_len (Nat.le_trans h1 (Nat.le_max_left a b))
  have h4 := lt_of_nf_len (Nat.le_trans h2 (Nat.le_max_right a b))
  refine nf_len_le ?_
  rw [Nat.pow_succ]; omega
theorem Rr.nflen {w : World} {v : Value} {n k : Nat} (h : Rr w v n k) : (nf n).length ≤ k := by
  obtain ⟨l, h, rfl, hl⟩ := h; exact Nat.le_trans (nf_val_len h.dig) hl
theorem addW (hu : Rr w u m km) (hv : Rr w v n kn) (hk : km ≤ 900000) (hk2 : kn ≤ 900000) : Calls Tryz.prog 272 #[u, v] w (RetN w (m + n) (max km kn + 1)) := by
  have h1 := hu.nflen
  have h3 := hv.nflen
  obtain ⟨la, h, rfl, hl⟩ := hu; obtain ⟨lb, h2, rfl, hl2⟩ := hv
  refine (add_any _ _ _ _ _ h h2 (by omega) (by omega)).mono ?_
  rintro e w' ⟨z, rfl, hz, hb⟩
  exact .mk (.of_own hz (len_addM h1 h3)) hb
theorem mulW (hu : Rr w u m km) (hv : Rr w v n kn) (hk : km ≤ 900000) (hk2 : kn ≤ 900000) : Calls Tryz.prog 212 #[u, v] w (RetN w (m * n) (km + kn)) := by
  have h1 := hu.nflen
  have h3 := hv.nflen
  obtain ⟨la, h, rfl, hl⟩ := hu; obtain ⟨lb, h2, rfl, hl2⟩ := hv
  refine (mul_any _ _ _ _ _ h h2 (by omega) (by omega)).mono ?_
  rintro e w' ⟨z, rfl, hz, hb⟩
  exact .mk (.of_own hz (len_mul h1 h3 (Nat.le_refl _))) hb
theorem subW (hu : Rr w u m km) (hv : Rr w v n kn) (hk : km ≤ 900000) : Calls Tryz.prog 273 #[u, v] w fun e w' => ∃ a l c, e = .returned (.tuple #[.slice a l c, .bool (decide (n ≤ m))]) ∧ Nn w' (.slice a l c) (m - n) km ∧ Below w.heap.size w w' := by
  have h1 := hu.nflen
  obtain ⟨la, h, rfl, hl⟩ := hu; obtain ⟨lb, h2, rfl, hl2⟩ := hv
  refine (sub_any _ _ _ _ _ h h2 (by omega)).mono ?_
  rintro e w' ⟨z, rfl, hz, hb⟩
  have hn := Nn.of_own hz (len_le (Nat.sub_le _ _) h1)
  obtain ⟨a, c, rfl, _⟩ := hn.shape; exact ⟨_, _, _, rfl, hn, hb⟩
theorem divmodW (hu : Rr w u m km) (hv : Rr w v n kn) (hk : km ≤ 900000) : Calls Tryz.prog 250 #[u, v] w fun e w' => ∃ a l c a2 l2 c2, e = .returned (.tuple #[.slice a l c, .slice a2 l2 c2, .bool (decide (n ≠ 0))]) ∧ Nn w' (.slice a l c) (m / n) km ∧ Nn w' (.slice a2 l2 c2) (if n = 0 then 0 else m % n) km ∧ Below w.heap.size w w' := by
  have h1 := hu.nflen
  obtain ⟨la, h, rfl, hl⟩ := hu; obtain ⟨lb, h2, rfl, hl2⟩ := hv
  refine (divmod_any _ _ _ _ _ h h2 (by omega) (.inr long_any)).mono ?_
  rintro e w' ⟨q, r, rfl, hq, hr, hb⟩
  have hn := Nn.of_own hq (len_le (Nat.div_le_self _ _) h1)
  have hn2 := Nn.of_own hr (k := km) (by
    split
    · simp [nf_zero]
    · exact len_le (Nat.mod_le _ _) h1)
  obtain ⟨a, c, rfl, _⟩ := hn.shape; obtain ⟨a2, c2, rfl, _⟩ := hn2.shape; exact ⟨_, _, _, _, _, _, rfl, hn, hn2, hb⟩
theorem gcdW (hu : Rr w u m km) (hv : Rr w v n kn) (hk : km ≤ 900000) (hk2 : kn ≤ 900000) : Calls Tryz.prog 249 #[u, v] w (RetN w (Nat.gcd m n) (max km kn)) := by
  have h1 := hu.nflen
  have h3 := hv.nflen
  obtain ⟨la, h, rfl, hl⟩ := hu; obtain ⟨lb, h2, rfl, hl2⟩ := hv
  refine (gcd_any _ _ _ _ _ h h2 (by omega) (by omega)).mono ?_
  rintro e w' ⟨z, rfl, hz, hb⟩
  refine .mk (.of_own hz ?_) hb
  by_cases h0 : val la = 0
  · rw [h0, Nat.gcd_zero_left]; exact Nat.le_trans h3 (Nat.le_max_right _ _)
  · exact Nat.le_trans (len_le (Nat.gcd_le_left _ (by omega)) h1) (Nat.le_max_left _ _)
theorem bitsW (hu : Rr w u m km) (hk : km ≤ 900000) : Calls Tryz.prog 133 #[u] w fun e w' => e = .returned (.int .i64 ((nbits m : Nat) : Int)) ∧ w = w' := by
  obtain ⟨la, h, rfl, hl⟩ := hu; exact natBits_any _ _ _ h (by omega)
theorem uintW (hu : Rr w u m km) : Calls Tryz.prog 252 #[u] w fun e w' => e = .returned (uintV m) ∧ w = w' := by
  obtain ⟨la, h, rfl, hl⟩ := hu; exact uint_any _ _ _ h
theorem fromUintW {x : Nat} (hx : x < 18446744073709551616) : Calls Tryz.prog 217 #[.int .u64 (x : Int)] w (RetN w x 2) := by
  refine (fromUint_any _ x hx).mono ?_
  rintro e w' ⟨z, rfl, hz, hb⟩
  exact .mk (.of_own hz (nf_len_le (by omega))) hb
theorem refNW (hu : Rr w u m km) (hk : km ≤ 900000) : Calls Tryz.prog 63 #[u] w (RetN w m km) := by
  have h1 := hu.nflen
  obtain ⟨la, h, rfl, hl⟩ := hu
  refine (refN_any _ _ _ h (by omega)).mono ?_
  rintro e w' ⟨z, rfl, hz, hb⟩
  exact .mk (.of_own hz h1) hb
theorem refToNW (hu : Nn w u m km) (hk : km ≤ 900000) : Calls Tryz.prog 102 #[u] w (RetN w m km) := by
  obtain ⟨h, hl⟩ := hu
  refine (refToN_any _ _ _ h (by omega)).mono ?_
  rintro e w' ⟨z, rfl, hz, hb⟩
  exact .mk (.of_own hz hl) hb
theorem numCmpW (hu : Nn w u m km) (hv : Nn w v n kn) : Calls Tryz.prog 139 #[u, v] w fun e w' => e = .returned (.int .i64 (cmpN m n)) ∧ Below w.heap.size w w' := numCmp_any _ _ _ _ _ hu.1 hv.1
end
end
section
theorem blw_set {w W : World} {p : Addr} (x : Value) (h : Below w.heap.size w W) (hp : w.heap.size ≤ p.block) : Below w.heap.size w (W.setCell p x) := h.setCell hp x
theorem blw_drew {w W : World} (h : Below w.heap.size w W) : Below w.heap.size w W.drew := h.drew
theorem keepc {W w1 : World} {a : Addr} {v : Value} (hb : Below W.heap.size W w1) (h : W.cell? a = some v) : w1.cell? a = some v := (hb.cell (lt_of_cell h)).trans h
theorem setf {W : World} {a p : Addr} {x : Value} (h : W.frozen? a = false) : (W.setCell p x).frozen? a = false := by
  simpa using h
theorem setn {W : World} {a p : Addr} {x v : Value} (h : W.cell? a = some v) (hne : p ≠ a) : (W.setCell p x).cell? a = some v := by
  rw [World.cell?_setCell_other _ _ _ _ hne]; exact h
def cellI (w : World) (a : Addr) : Int := match w.cell? a with | some (.int _ x) => x | _ => 0
theorem hasU {w : World} {a : Addr} {n : Int} (h : w.cell? a = some (.int .u32 n)) : w.cell? a = some (.int .u32 (cellI w a)) := by unfold cellI; rw [h]
theorem setUs {W : World} {p : Addr} {u : Value} {n : Int} (h : W.cell? p = some u) : (W.setCell p (.int .u32 n)).cell? p = some (.int .u32 (cellI (W.setCell p (.int .u32 n)) p)) := hasU (World.cell?_setCell_same _ _ _ h)
theorem loadVar_at {P : Program} (W : World) (b : Nat) (ty : TypeId) (vs : List Value) (d : TypeDesc) (hu : P.underlying ty = some d) (hd : (match d with | .struct _ | .array _ _ => true | _ => false) = true)
    (hi : (P.info? ty).map (·.size) = some vs.length) (hc : ∀ j (hj : j < vs.length), W.cell? ⟨b, j, none⟩ = some vs[j]) : (loadVar ty ⟨b, 0, none⟩).run P W = .ok (.agg vs.toArray) W := by
  have hl : (loadCells ⟨b, 0, none⟩ vs.length).run P W = .ok vs.toArray W :=
    run_loadCells_list (P := P) W ⟨b, 0, none⟩ vs (fun j v hv => by
      have hadd : (⟨b, 0, none⟩ : Addr).add j = ⟨b, j, none⟩ := by unfold Addr.add; split <;> simp_all
      rw [hadd]
      have hj : j < vs.length := by
        rcases Nat.lt_or_ge j vs.length with h | h
        · exact h
        · rw [List.getElem?_eq_none h] at hv; cases hv
      rw [hc j hj, ← hv, List.getElem?_eq_getElem hj])
  cases hq : P.info? ty with
  | none => simp [hq] at hi
  | some i =>
    have hs : i.size = vs.length := by simpa [hq] using hi
    have hagg : (isAgg ty).run P W = .ok true W := by
      unfold isAgg; rw [Sem.run_bind, run_underlying hu W]
      cases d <;> simp_all
    simp [loadVar, hagg, sizeOf, typeInfo, hq, hs, hl]
theorem ret_ct {P : Program} {fn : Func} {R : Ending → World → Prop} {a : Act} {W : World} {p u : Tmp} {ty : TypeId} {b1 : Nat} {v1 : Value} (hr : fn.results = #[.cell p ty, .tmp u])
    (hp : a.tmps.getD p undef = .pointer (some ⟨b1, 0, none⟩)) (h1 : (loadVar ty ⟨b1, 0, none⟩).run P W = .ok v1 W)
    (hdf : a.defers = []) (hR : R (.returned (.tuple #[v1, a.tmps.getD u undef])) W) : bodyPost P fn R .ret a W := by
  refine ⟨hdf, _, ?_, hR⟩
  have hp' : a.tmps[p]?.getD undef = .pointer (some ⟨b1, 0, none⟩) := by simpa using hp
  simp [results, hr, hp', asAddr, h1]
theorem ret_c {P : Program} {fn : Func} {R : Ending → World → Prop} {a : Act} {W : World} {p : Tmp} {ty : TypeId} {b1 : Nat} {v1 : Value} (hr : fn.results = #[.cell p ty])
    (hp : a.tmps.getD p undef = .pointer (some ⟨b1, 0, none⟩)) (h1 : (loadVar ty ⟨b1, 0, none⟩).run P W = .ok v1 W)
    (hdf : a.defers = []) (hR : R (.returned v1) W) : bodyPost P fn R .ret a W := by
  refine ⟨hdf, _, ?_, hR⟩
  have hp' : a.tmps[p]?.getD undef = .pointer (some ⟨b1, 0, none⟩) := by simpa using hp
  simp [results, hr, hp', asAddr, h1]
def isDigit32 : Value → Bool
  | .int .u32 _ => true
  | _ => false
theorem Nn.lit1 {w : World} : Nn (w.alloc (.cells #[.int .u32 1] 106)) (.slice (some ⟨w.heap.size, 0, none⟩) 1 1) 1 1 :=
  .lit (rd_lit rfl [1] (dig1 (by omega)) (by simp) #[.int .u32 1] rfl 1 rfl) (nf_one (by omega) (by omega)) (by simp)
end
end Go.Proofs.YtdlnoeegboapkaaGreatDoor
