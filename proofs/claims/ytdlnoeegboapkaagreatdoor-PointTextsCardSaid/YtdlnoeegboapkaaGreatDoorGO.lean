/-
  Texts of this claim, joined: Err, Sen, Prs, Parse0, Parse, Parse2, Fmt.
-/
import Derived.Test.YtdlnoeegboapkaaGreatDoorProg
import Derived.WalkKit
import Derived.Lib.Hide
import Derived.LaidEql
import Derived.Stop.Asserts
import Derived.RowKitTokens
import Derived.Test.YtdlnoeegboapkaaGreatDoorGH
import Derived.Test.YtdlnoeegboapkaaGreatDoorGC
import Derived.Test.YtdlnoeegboapkaaGreatDoorGJ
/- errors.Is at a sentinel of errors.New's make: of nil, and of an error of package api (after the kit's worked example 'sentry'). -/
namespace Go.Proofs.YtdlnoeegboapkaaGreatDoor
open Go.RowKit Go.Extern.Stop Go.Stop Go.Extern

theorem Tryz.isTypeOf (v : Value) (w : World) : (Extern.ReflectliteType.typeOf #[.iface 365 v]).run Tryz.prog w = .ok (.iface 217 (.agg #[.pointer (some ⟨10, 365, none⟩)])) w := by kernel_rfl
/-- The model's entry for (rtype).Comparable. -/
def cmpE : Array Value → Sem Value := Extern.ReflectliteType.method fun t => do Rtype.noPackHeld "Comparable" t; pure (.bool (← typeInfo t).comparable)
theorem Tryz.isComparable (w : World) : (cmpE #[.agg #[.pointer (some ⟨10, 365, none⟩)]]).run Tryz.prog w = .ok (.bool true) w := by kernel_rfl
theorem Tryz.isMethodComparable (v : Value) (w : World) : (Go.method 500 217 v "Comparable").run Tryz.prog w = .ok (324, v) w := by kernel_rfl
theorem Tryz.isComp : (Tryz.prog.info? 365).map (·.comparable) = some true := by kernel_rfl
theorem Tryz.isSize : (Tryz.prog.info? 388).map (·.size) = some 1 := by kernel_rfl
theorem Tryz.noIsE (v : Value) (xT : TypeId) (w : World) : (Instr.typeAssert (.iface 365 v) xT 219 true).run Tryz.prog w = .ok (.tuple #[.nilIface, .bool false]) w := run_typeAssert_lacksB Tryz.underlying219 (by kernel_rfl) (by kernel_rfl) v xT w
theorem Tryz.noUnwrapE (v : Value) (xT : TypeId) (w : World) : (Instr.typeAssert (.iface 365 v) xT 222 true).run Tryz.prog w = .ok (.tuple #[.nilIface, .bool false]) w := run_typeAssert_lacksB Tryz.underlying222 (by kernel_rfl) (by kernel_rfl) v xT w
theorem Tryz.noUnwrapsE (v : Value) (xT : TypeId) (w : World) : (Instr.typeAssert (.iface 365 v) xT 224 true).run Tryz.prog w = .ok (.tuple #[.nilIface, .bool false]) w := run_typeAssert_lacksB Tryz.underlying224 (by kernel_rfl) (by kernel_rfl) v xT w
theorem Tryz.noIsW (v : Value) (xT : TypeId) (w : World) : (Instr.typeAssert (.iface 114 v) xT 219 true).run Tryz.prog w = .ok (.tuple #[.nilIface, .bool false]) w := run_typeAssert_lacksB Tryz.underlying219 (by kernel_rfl) (by kernel_rfl) v xT w
theorem Tryz.hasUnwrapW (v : Value) (xT : TypeId) (w : World) : (Instr.typeAssert (.iface 114 v) xT 222 true).run Tryz.prog w = .ok (.tuple #[.iface 114 v, .bool true]) w := run_typeAssert_hasB Tryz.underlying222 (by kernel_rfl) v xT w
theorem Tryz.methodUnwrap (v : Value) (w : World) : (Go.method 500 114 v "Unwrap").run Tryz.prog w = .ok (319, v) w := by kernel_rfl

/-- errors.Is(nil, x). -/
theorem is_nil (b : Addr) (w : World) :
    Calls Tryz.prog 18 #[.nilIface, .iface 365 (.pointer (some b))] w fun e w' => e = .returned (.bool false) ∧ w = w' := by
  have hn := run_eql_iface_nil_left (P := Tryz.prog) w 365 (.pointer (some b)) Tryz.underlying36
  go_enter Tryz.func18, Tryz.ntmps18
  go_wp2
  go_ret
  exact ⟨rfl, rfl⟩

/-- errors.Is(e, x), e an error of package api whose kind is x itself. -/
theorem is_err_same (pb : Nat) (b : Addr) (w : World) (h1 : w.cell? ⟨pb, 0, none⟩ = some (.iface 365 (.pointer (some b)))) :
    Calls Tryz.prog 18 #[.iface 114 (.pointer (some ⟨pb, 0, none⟩)), .iface 365 (.pointer (some b))] w fun e w' => e = .returned (.bool true) ∧ w = w' := by
  obtain ⟨i, hi, hcmp⟩ := Option.map_eq_some_iff.1 Tryz.isComp
  obtain ⟨j, hj, hjs⟩ := Option.map_eq_some_iff.1 Tryz.isSize
  have h8 := @run_callFunc_extern Tryz.prog 70 _ Extern.ReflectliteType.typeOf Tryz.func70 (by kernel_rfl) (by kernel_rfl) (by kernel_rfl) (by kernel_rfl)
  have h32 := @run_callFunc_extern Tryz.prog 324 _ cmpE Tryz.func324 (by kernel_rfl) (by kernel_rfl) (by kernel_rfl) (by kernel_rfl)
  have tT := Tryz.isTypeOf
  have cT := Tryz.isComparable
  have mR := Tryz.isMethodComparable
  have nE := Tryz.noIsE
  have uE := Tryz.noUnwrapE
  have vE := Tryz.noUnwrapsE
  have nW := Tryz.noIsW
  have uW := Tryz.hasUnwrapW
  have mU := Tryz.methodUnwrap
  have heq := run_eql_iface_ptr_same (P := Tryz.prog) w b Tryz.underlying36 Tryz.underlying365 hi hcmp hj
  have hty := run_eql_iface_types (P := Tryz.prog) 114 365 (.pointer (some ⟨pb, 0, none⟩)) (.pointer (some b)) Tryz.underlying36 (by decide) w
  go_enter Tryz.func18, Tryz.ntmps18
  go_wp2
  refine wp_loop_rounds 2 ?_
  rw [rounds_succ]
  go_wp2
  rw [rounds_succ]
  go_wp2
  go_ret
  exact ⟨rfl, rfl⟩

/-- errors.Is(e, x), e an error of package api whose kind is another sentinel. -/
theorem is_err_other (pb : Nat) (b a : Addr) (ca cb : Array Value) (ta tb : TypeId) (w : World) (h1 : w.cell? ⟨pb, 0, none⟩ = some (.iface 365 (.pointer (some a)))) (hne : a ≠ b) (ha : w.heap[a.block]? = some (.cells ca ta (0, 0))) (hb : w.heap[b.block]? = some (.cells cb tb (0, 0))) :
    Calls Tryz.prog 18 #[.iface 114 (.pointer (some ⟨pb, 0, none⟩)), .iface 365 (.pointer (some b))] w fun e w' => e = .returned (.bool false) ∧ w = w' := by
  obtain ⟨i, hi, hcmp⟩ := Option.map_eq_some_iff.1 Tryz.isComp
  obtain ⟨j, hj, hjs⟩ := Option.map_eq_some_iff.1 Tryz.isSize
  have h8 := @run_callFunc_extern Tryz.prog 70 _ Extern.ReflectliteType.typeOf Tryz.func70 (by kernel_rfl) (by kernel_rfl) (by kernel_rfl) (by kernel_rfl)
  have h32 := @run_callFunc_extern Tryz.prog 324 _ cmpE Tryz.func324 (by kernel_rfl) (by kernel_rfl) (by kernel_rfl) (by kernel_rfl)
  have tT := Tryz.isTypeOf
  have cT := Tryz.isComparable
  have mR := Tryz.isMethodComparable
  have nE := Tryz.noIsE
  have uE := Tryz.noUnwrapE
  have vE := Tryz.noUnwrapsE
  have nW := Tryz.noIsW
  have uW := Tryz.hasUnwrapW
  have mU := Tryz.methodUnwrap
  have heq := run_eql_iface_ptr_other (P := Tryz.prog) w Tryz.underlying36 Tryz.underlying365 hi hcmp hj (by rw [hjs]; decide) hne ha hb
  have hty := run_eql_iface_types (P := Tryz.prog) 114 365 (.pointer (some ⟨pb, 0, none⟩)) (.pointer (some b)) Tryz.underlying36 (by decide) w
  go_enter Tryz.func18, Tryz.ntmps18
  go_wp2
  refine wp_loop_rounds 2 ?_
  rw [rounds_succ]
  go_wp2
  rw [rounds_succ]
  go_wp2
  go_ret
  exact ⟨rfl, rfl⟩
end Go.Proofs.YtdlnoeegboapkaaGreatDoor

/- Sentinels of package api in memory, as a class: the variable g holds a pointer to an error of errors.New's make; both lie below what the world w0 held. errors.Is in these words. -/
namespace Go.Proofs.YtdlnoeegboapkaaGreatDoor
open Go.RowKit

instance : BoxT 116 := by constructor <;> decide
instance {t : TypeId} {v : Value} : Ndg (.iface t v) := ⟨rfl⟩
instance : Ndg .nilIface := ⟨rfl⟩
instance {s : ByteArray} : Ndg (.string s) := ⟨rfl⟩
/-- The variable g holds the sentinel at a. -/
class Snt (W : World) (g : Nat) (a : outParam Addr) (w0 : outParam World) : Prop where
  cell : W.cell? ⟨g, 0, none⟩ = some (.iface 365 (.pointer (some a)))
  row : ∃ c t, W.heap[a.block]? = some (.cells c t (0, 0))
  lt : g < w0.heap.size ∧ a.block < w0.heap.size
  ltW : g < W.heap.size ∧ a.block < W.heap.size
theorem Snt.mk1 {W : World} {g : Nat} {a : Addr} (h1 : W.cell? ⟨g, 0, none⟩ = some (.iface 365 (.pointer (some a)))) (h2 : ∃ c t, W.heap[a.block]? = some (.cells c t (0, 0))) : Snt W g a W := by
  obtain ⟨c, t, h⟩ := h2
  exact ⟨h1, ⟨c, t, h⟩, ⟨lt_of_cell h1, heap_lt h⟩, ⟨lt_of_cell h1, heap_lt h⟩⟩
theorem Snt.here {W w0 : World} {g : Nat} {a : Addr} (h : Snt W g a w0) : Snt W g a W := ⟨h.cell, h.row, h.ltW, h.ltW⟩
theorem Snt.keep {W W2 w0 : World} {g : Nat} {a : Addr} (h : Snt W g a w0) (hs : W.heap.size ≤ W2.heap.size) (hg : W2.heap[g]? = W.heap[g]?) (ha : W2.heap[a.block]? = W.heap[a.block]?) : Snt W2 g a w0 := by
  refine ⟨?_, ?_, h.lt, ⟨Nat.lt_of_lt_of_le h.ltW.1 hs, Nat.lt_of_lt_of_le h.ltW.2 hs⟩⟩
  · have := h.cell
    unfold World.cell? at this ⊢
    simp only [hg]; exact this
  · rw [ha]; exact h.row
instance Snt.al {W w0 : World} {g : Nat} {a : Addr} {o : Obj} [h : Snt W g a w0] : Snt (W.alloc o) g a w0 := h.keep (by rw [World.size_alloc]; omega) (heap_al_lt h.ltW.1) (heap_al_lt h.ltW.2)
instance Snt.dr {W w0 : World} {g : Nat} {a : Addr} [h : Snt W g a w0] : Snt W.drew g a w0 := h.keep (Nat.le_refl _) rfl rfl
instance Snt.drN {W w0 : World} {g j : Nat} {a : Addr} [h : Snt W g a w0] : Snt (W.drewN j) g a w0 := h.keep (Nat.le_refl _) rfl rfl
instance (priority := low) Snt.kp {W W2 w0 : World} {g : Nat} {a : Addr} [k : Kp1 W W2] [h : Snt W g a w0] : Snt W2 g a w0 := h.keep k.out.size (k.out.block _ h.ltW.1) (k.out.block _ h.ltW.2)
instance (priority := low) Snt.tp {W W2 w0 : World} {g g' : Nat} {a : Addr} [k : Tp1 W W2 g'] [h : Snt W g a w0] [n : Ge w0 g'] : Snt W2 g a w0 := h.keep k.gb.size
  (k.gb.block _ h.ltW.1 (fun e => by injection e with e; have := n.out; have := h.lt.1; omega)) (k.gb.block _ h.ltW.2 (fun e => by injection e with e; have := n.out; have := h.lt.2; omega))
instance Snt.st {W w0 : World} {g q i : Nat} {a : Addr} {x : Value} [h : Snt W g a w0] [n : Ge w0 q] : Snt (W.setCell ⟨q, i, none⟩ x) g a w0 := h.keep (by rw [World.size_setCell]; omega)
  (by simp only [World.setCell, Array.getElem?_modify]; rw [if_neg (by have := n.out; have := h.lt.1; omega)])
  (by simp only [World.setCell, Array.getElem?_modify]; rw [if_neg (by have := n.out; have := h.lt.2; omega)])
/-- All blocks of the list lie behind what w0 held. -/
class GeL (w0 : World) (L : List Nat) : Prop where out : ∀ q ∈ L, w0.heap.size ≤ q
instance GeL.nil {w0 : World} : GeL w0 [] := ⟨fun _ h => nomatch h⟩
instance GeL.cons {w0 : World} {q : Nat} {L : List Nat} [h1 : Ge w0 q] [h2 : GeL w0 L] : GeL w0 (q :: L) := ⟨fun x h => by
  rcases List.mem_cons.1 h with rfl | h
  · exact h1.out
  · exact h2.out _ h⟩
instance (priority := low) Snt.ex {W0 W w0 : World} {L : List Nat} {g : Nat} {a : Addr} [e : Ex1 W0 L W] [h : Snt W0 g a w0] [n : GeL w0 L] : Snt W g a w0 := h.keep e.out.size
  (e.out.block _ h.ltW.1 (fun hm => by have := n.out _ hm; have := h.lt.1; omega)) (e.out.block _ h.ltW.2 (fun hm => by have := n.out _ hm; have := h.lt.2; omega))
@[go_sem] theorem cell_snt {W w0 : World} {g : Nat} {a : Addr} [h : Snt W g a w0] : W.cell? ⟨g, 0, none⟩ = some (.iface 365 (.pointer (some a))) := h.cell
theorem isNilC {w : World} (a : Addr) : Calls Tryz.prog 18 #[.nilIface, .iface 365 (.pointer (some a))] w fun e w' => e = .returned (.bool false) ∧ w = w' := is_nil a w
theorem isSameC {w : World} {b : Nat} {a : Addr} {l c : Int} {s : ByteArray} [h : Bx w b 116 [.iface 365 (.pointer (some a)), .int .i64 l, .int .i64 c, .string s]] :
    Calls Tryz.prog 18 #[.iface 114 (.pointer (some ⟨b, 0, none⟩)), .iface 365 (.pointer (some a))] w fun e w' => e = .returned (.bool true) ∧ w = w' :=
  is_err_same b a w (by rw [cell_bx]; rfl)
theorem isOtherC {w w1 w2 : World} {b g1 g2 : Nat} {a a2 : Addr} {l c : Int} {s : ByteArray} [h : Bx w b 116 [.iface 365 (.pointer (some a)), .int .i64 l, .int .i64 c, .string s]] (h1 : Snt w g1 a w1) (h2 : Snt w g2 a2 w2) (hne : a ≠ a2) :
    Calls Tryz.prog 18 #[.iface 114 (.pointer (some ⟨b, 0, none⟩)), .iface 365 (.pointer (some a2))] w fun e w' => e = .returned (.bool false) ∧ w = w' := by
  obtain ⟨c1, t1, e1⟩ := h1.row
  obtain ⟨c2, t2, e2⟩ := h2.row
  exact is_err_other b a2 a c1 c2 t1 t2 w (by rw [cell_bx]; rfl) hne e1 e2
end Go.Proofs.YtdlnoeegboapkaaGreatDoor

/- Reading decimal digits: plain laws. 'bvalF a l': the number that the bytes l, behind the number a, stand for; 'isD b': the byte is a digit. -/
namespace Go.Proofs.YtdlnoeegboapkaaGreatDoor

def bdig (b : UInt8) : Nat := b.toNat - 48
def isD (b : UInt8) : Bool := decide (48 ≤ b.toNat) && decide (b.toNat ≤ 57)
/-- The number that bytes stand for, behind the number a. -/
def bvalF (a : Nat) (l : List UInt8) : Nat := l.foldl (fun a b => 10 * a + bdig b) a
def bval (l : List UInt8) : Nat := bvalF 0 l
theorem bvalF_nil (a : Nat) : bvalF a [] = a := by unfold bvalF; rw [List.foldl_nil]
theorem bvalF_cons (a : Nat) (b : UInt8) (l : List UInt8) : bvalF a (b :: l) = bvalF (10 * a + bdig b) l := by unfold bvalF; rw [List.foldl_cons]
theorem bvalF_append (a : Nat) (l m : List UInt8) : bvalF a (l ++ m) = bvalF (bvalF a l) m := by unfold bvalF; rw [List.foldl_append]
theorem bvalF_snoc (a : Nat) (l : List UInt8) (b : UInt8) : bvalF a (l ++ [b]) = 10 * bvalF a l + bdig b := by rw [bvalF_append, bvalF_cons, bvalF_nil]
theorem bvalF_eq (l : List UInt8) : ∀ a, bvalF a l = a * 10 ^ l.length + bvalF 0 l := by
  induction l with
  | nil => intro a; simp [bvalF_nil]
  | cons b l ih =>
    intro a
    rw [bvalF_cons, bvalF_cons, ih, ih (10 * 0 + bdig b), List.length_cons, Nat.pow_succ]
    have : (10 * a + bdig b) * 10 ^ l.length = a * (10 ^ l.length * 10) + bdig b * 10 ^ l.length := by
      rw [Nat.add_mul, Nat.mul_comm 10 a, Nat.mul_assoc, Nat.mul_comm 10 (10 ^ l.length)]
    have e2 : (10 * 0 + bdig b) * 10 ^ l.length = bdig b * 10 ^ l.length := by rw [Nat.mul_zero, Nat.zero_add]
    rw [this, e2]
    omega
theorem isD_bd {b : UInt8} (h : isD b = true) : bdig b < 10 ∧ 48 ≤ b.toNat ∧ b.toNat ≤ 57 := by
  unfold isD at h
  simp only [Bool.and_eq_true, decide_eq_true_eq] at h
  unfold bdig
  omega
theorem bval_lt : ∀ l : List UInt8, (∀ b ∈ l, isD b = true) → bval l < 10 ^ l.length := by
  intro l
  induction l with
  | nil => intro _; decide
  | cons b l ih =>
    intro h
    have h1 := ih (fun x hx => h x (List.mem_cons_of_mem _ hx))
    have h2 := (isD_bd (h b (List.mem_cons_self ..))).1
    unfold bval at *
    rw [bvalF_cons, bvalF_eq, List.length_cons, Nat.pow_succ]
    have e2 : (10 * 0 + bdig b) * 10 ^ l.length = bdig b * 10 ^ l.length := by rw [Nat.mul_zero, Nat.zero_add]
    have : bdig b * 10 ^ l.length ≤ 9 * 10 ^ l.length := Nat.mul_le_mul_right _ (by omega)
    omega
theorem isD_of (d : Nat) (h : d < 10) : isD (UInt8.ofNat (48 + d)) = true ∧ bdig (UInt8.ofNat (48 + d)) = d := by
  have : (UInt8.ofNat (48 + d)).toNat = 48 + d := by
    rw [UInt8.toNat_ofNat']; omega
  unfold isD bdig
  rw [this]
  constructor
  · simp; omega
  · omega
theorem foldr_dval : ∀ l : List Nat, (∀ d ∈ l, d < 10) → ((l.map (fun d => UInt8.ofNat (48 + d))).foldr (fun b a => 10 * a + bdig b) 0) = dval l := by
  intro l
  induction l with
  | nil => intro _; rfl
  | cons d l ih =>
    intro h
    rw [List.map_cons, List.foldr_cons, ih (fun x hx => h x (List.mem_cons_of_mem _ hx)), (isD_of d (h d (List.mem_cons_self ..))).2]
    show _ = d + 10 * dval l
    omega
/-- The bytes of a number's text. -/
def decL (n : Nat) : List UInt8 := (decBytes n).map UInt8.ofNat
theorem decStr_data (n : Nat) : (decStr n).data.toList = decL n := rfl
theorem decL_pos {n : Nat} (h : n ≠ 0) : decL n = ((dl n).map (fun d => UInt8.ofNat (48 + d))).reverse := by
  unfold decL
  rw [decBytes_pos h, List.map_reverse, List.map_map]; rfl
theorem decL_isD (n : Nat) : ∀ b ∈ decL n, isD b = true := by
  by_cases h : n = 0
  · subst h
    intro b hb
    have : b = 48 := by simpa [decL, decBytes_zero] using hb
    subst this; decide
  · rw [decL_pos h]
    intro b hb
    obtain ⟨d, hd, rfl⟩ := List.mem_map.1 (List.mem_reverse.1 hb)
    exact (isD_of d (dl_lt n d hd)).1
theorem bval_decL (n : Nat) : bval (decL n) = n := by
  by_cases h : n = 0
  · subst h; rfl
  · rw [decL_pos h]
    unfold bval bvalF
    rw [List.foldl_reverse, foldr_dval _ (dl_lt n), dval_dl]
theorem decL_ne (n : Nat) : decL n ≠ [] := by
  by_cases h : n = 0
  · subst h; decide
  · rw [decL_pos h]
    intro e
    have := congrArg List.length e
    simp at this
    exact h (dl_eq_nil.1 this)
theorem decL_len (n : Nat) : (decL n).length ≤ 1 + (dl n).length := by
  by_cases h : n = 0
  · subst h; decide
  · rw [decL_pos h]; simp
end Go.Proofs.YtdlnoeegboapkaaGreatDoor

/- Contract of nat.Parse: the number that decimal digits stand for, or an error of package api. -/
namespace Go.Proofs.YtdlnoeegboapkaaGreatDoor
open Go.RowKit

/-- What Parse answers: 1: a syntax error, 2: too many digits, 0: a number. -/
def pKind (l : List UInt8) : Nat := if l = [] ∨ (∃ b ∈ l, isD b = false) then 1 else if 4096 < l.length then 2 else 0
/-- The block b has been made since W. -/
class NwB (b : Nat) (W : outParam World) : Prop where out : W.heap.size ≤ b
instance (priority := low) LtN.nwB {q b : Nat} {W : World} [h : NwB b W] [k : LtN q W.heap.size] : LtN q b := ⟨Nat.lt_of_lt_of_le k.out h.out⟩
instance (priority := low) Ge.nwB {w W : World} {b : Nat} [h : NwB b W] [k : Ge w W.heap.size] : Ge w b := ⟨Nat.le_trans k.out h.out⟩
/-- An error of package api of the kind at a is returned behind a value v. -/
def ErrRet (w : World) (v : Value) (a : Addr) (e : Ending) (w' : World) : Prop :=
  ∃ b s, e = .returned (.tuple #[v, .iface 114 (.pointer (some ⟨b, 0, none⟩))]) ∧ Bx w' b 116 [.iface 365 (.pointer (some a)), .int .i64 0, .int .i64 0, .string s] ∧ Ge w b ∧ Below w.heap.size w w'
theorem Calls.kErr {P : Program} {f : FuncId} {args : Array Value} {w : World} {v : Value} {a : Addr} {K : Ending → World → Prop} (h : Calls P f args w (ErrRet w v a))
    (hK : ∀ w' [Kp1 w w'] b s [NwB b w] [Bx w' b 116 [.iface 365 (.pointer (some a)), .int .i64 0, .int .i64 0, .string s]], K (.returned (.tuple #[v, .iface 114 (.pointer (some ⟨b, 0, none⟩))])) w') : Calls P f args w K := by
  refine h.mono ?_
  rintro e w' ⟨b, s, rfl, hx, hg, hb⟩
  exact @hK w' ⟨hb⟩ b s ⟨hg.out⟩ hx
/-- A number is returned, and no error. -/
def NumRet (w : World) (m k : Nat) (e : Ending) (w' : World) : Prop :=
  ∃ a l c, e = .returned (.tuple #[.slice a l c, .nilIface]) ∧ CN w' (.slice a l c) m k ∧ Below w.heap.size w w'
theorem Calls.kNum {P : Program} {f : FuncId} {args : Array Value} {w : World} {m k : Nat} {K : Ending → World → Prop} (h : Calls P f args w (NumRet w m k))
    (hK : ∀ w' [Kp1 w w'] a l c [CN w' (.slice a l c) m k], K (.returned (.tuple #[.slice a l c, .nilIface])) w') : Calls P f args w K := by
  refine h.mono ?_
  rintro e w' ⟨a, l, c, rfl, hx, hb⟩
  exact @hK w' ⟨hb⟩ a l c hx
def byteAt (s : ByteArray) (k : Nat) : UInt8 := s.data.toList.getD k 0
theorem byteAt_eq (s : ByteArray) (k : Nat) (h : k < s.size) : s[k]'h = byteAt s k := by
  unfold byteAt
  obtain ⟨⟨l⟩⟩ := s
  have h' : k < l.length := h
  rw [List.getD_eq_getElem?_getD, List.getElem?_eq_getElem h']
  rfl
theorem ix_str (s : ByteArray) (k : Nat) (hk : k < s.size) (w : World) : (Instr.index 9 (.string s) (.int .i64 (k : Int))).run Tryz.prog w = .ok (.int .u8 ((byteAt s k).toNat : Int)) w := by
  rw [run_index_string _ _ _ _ _ Tryz.underlying9, dif_pos ⟨by omega, by omega⟩, ← byteAt_eq s k hk]
  rfl
def strSize : Value → Nat | .string s => s.size | _ => 0
theorem str_len (s : ByteArray) : s.size = s.data.toList.length := Lib.size_eq s
theorem tens_alg {A Pc c0 B Px Pr Pm Pt : Nat} (h : A + Pc = c0 + 1000000000 * B) (h1 : Pr + Pm = Pt) (h2 : Pt = Pc + 1000000000 * Px) : A + Pr + Pm = c0 + 1000000000 * (B + Px) := by omega
/-- The digits behind a round of multiplication by 10^9. -/
theorem tens_step {D L : List Nat} {k c x : Nat} (hk : k < L.length) (hD : D.length = L.length) (hx : D.getD k 0 = x) (hxl : x < 4294967296) (hc : c ≤ 1000000000) {c0 : Nat}
    (h : val (L.take k) + 4294967296 ^ k * c = c0 + 1000000000 * val (D.take k)) :
    (c + x * 1000000000) / 4294967296 ≤ 1000000000 ∧ val ((L.set k ((c + x * 1000000000) % 4294967296)).take (k + 1)) + 4294967296 ^ (k + 1) * ((c + x * 1000000000) / 4294967296) = c0 + 1000000000 * val (D.take (k + 1)) := by
  refine ⟨Nat.div_le_of_le_mul (by omega), ?_⟩
  rw [val_take_snoc _ _ (by rw [List.length_set]; exact hk), val_take_snoc D k (by omega), hx]
  have e1 : (L.set k ((c + x * 1000000000) % 4294967296)).take k = L.take k := by rw [List.take_set, List.set_eq_of_length_le (by rw [List.length_take]; omega)]
  have e2 : (L.set k ((c + x * 1000000000) % 4294967296)).getD k 0 = (c + x * 1000000000) % 4294967296 := by
    rw [List.getD_eq_getElem?_getD, List.getElem?_set_self hk, Option.getD_some]
  rw [e1, e2, Nat.pow_succ]
  clear e1 e2
  generalize hs : c + x * 1000000000 = t
  generalize 4294967296 ^ k = P at *
  generalize val (L.take k) = A at *
  generalize val (D.take k) = B at *
  have h1 : P * (t % 4294967296) + P * 4294967296 * (t / 4294967296) = P * t := by
    rw [Nat.mul_assoc, ← Nat.mul_add, Nat.mod_add_div]
  have h2 : P * t = P * c + 1000000000 * (P * x) := by rw [← hs, Nat.mul_add, Nat.mul_comm x, Nat.mul_left_comm]
  exact tens_alg h h1 h2
theorem tens_close {D L : List Nat} {v0 T : Nat} (hD : D = nf v0) (hL : L.length = D.length) (hd : Dig L) (hv : val L = T) (hT : v0 ≤ T) : nf T = L := by
  have h1 := nf_len_mono hT
  have h2 := nf_prefix hd
  have h3 := nf_val_len hd
  rw [hv] at h2 h3
  rw [h2, List.take_of_length_le]
  subst hD
  omega
theorem tens_close2 {L : List Nat} {c T : Nat} (hd : Dig L) (hc : 0 < c) (hcl : c < 4294967296) (hv : val L + 4294967296 ^ L.length * c = T) : nf T = L ++ [c] := by
  rw [← hv, ← val_snoc]
  exact nf_val_of_last L c hd hcl (by omega)
/-- What nat.Parse returns. -/
def ParsePost (w : World) (l : List UInt8) (a0 a1 : Addr) (e : Ending) (w' : World) : Prop :=
  (pKind l = 1 ∧ ErrRet w (.slice none 0 0) a0 e w') ∨ (pKind l = 2 ∧ ErrRet w (.slice none 0 0) a1 e w') ∨ (pKind l = 0 ∧ NumRet w (bval l) 4097 e w')
theorem byteAt_mem {s : ByteArray} {k : Nat} (h : k < s.size) : byteAt s k ∈ s.data.toList := by
  rw [str_len] at h
  unfold byteAt
  rw [List.getD_eq_getElem?_getD, List.getElem?_eq_getElem h]
  exact List.getElem_mem h
theorem take_byte {s : ByteArray} {k : Nat} (h : k < s.size) : s.data.toList.take (k + 1) = s.data.toList.take k ++ [byteAt s k] := by
  rw [str_len] at h
  unfold byteAt
  rw [List.take_add_one, List.getElem?_eq_getElem h, List.getD_eq_getElem?_getD, List.getElem?_eq_getElem h]
  rfl
theorem not_isD {b : UInt8} (h : isD b = false) : b.toNat < 48 ∨ 57 < b.toNat := by
  unfold isD at h
  simp only [Bool.and_eq_false_iff, decide_eq_false_iff_not] at h
  omega
theorem nf_bval_len {l : List UInt8} (h : ∀ b ∈ l, isD b = true) : (nf (bval l)).length ≤ l.length :=
  nf_len_le (Nat.lt_of_lt_of_le (bval_lt l h) (Nat.pow_le_pow_left (by omega) _))

end Go.Proofs.YtdlnoeegboapkaaGreatDoor

/- The walk of nat.Parse. -/
namespace Go.Proofs.YtdlnoeegboapkaaGreatDoor
open Go.RowKit
set_option maxRecDepth 100000
set_option maxHeartbeats 40000000
set_option synthInstance.maxSize 100000
set_option synthInstance.maxHeartbeats 1000000

theorem parse_any {w w1 w2 : World} (s : ByteArray) {a0 a1 : Addr} [h0 : Snt w 0 a0 w1] [h1 : Snt w 2 a1 w2] (hsz : s.size ≤ 1000000000) :
    Calls Tryz.prog 132 #[.string s] w (ParsePost w s.data.toList a0 a1) := by
  have i0 := h0.here
  have i1 := h1.here
  clear h0 h1
  have hlen := str_len s
  by_cases he : s.data.toList = []
  · have hee : s.toList.isEmpty = true := by rw [Lib.toList_data, he]; rfl
    have HP : Hid (pKind s.data.toList = 1) := by show _ = _; unfold pKind; rw [if_pos (.inl he)]
    clear he hlen
    go_enter Tryz.func132, Tryz.ntmps132
    go_wp2
    go_ret2
    exact .inl ⟨HP.out, _, _, rfl, inferInstance, inferInstance, (inferInstance : Kp w _).out⟩
  · have hee : s.toList.isEmpty = false := by
      rw [Lib.toList_data]
      cases hx : s.data.toList with
      | nil => exact absurd hx he
      | cons => rfl
    have hpos : 0 < s.size := by
      rw [hlen]
      exact List.length_pos_iff.2 he
    clear he
    have HLEN := Lib.hid hlen
    clear hlen
    go_enter Tryz.func132, Tryz.ntmps132
    go_wp2_with fail
    go_loop [17] (fun i => ∃ k : Nat, k ≤ s.size ∧ i = .int .i64 k ∧ Hid (∀ b ∈ s.data.toList.take k, isD b = true)) (fun i => s.size - (intOf i).toNat)
    case atStart => exact ⟨0, Nat.zero_le _, rfl, fun b hb => by simp at hb⟩
    case round =>
      obtain ⟨k, hk, rfl, hD⟩ := hrel
      by_cases hlt : k < s.size
      · have hix := ix_str s k hlt
        by_cases hd : isD (byteAt s k) = true
        · obtain ⟨_, d1, d2⟩ := isD_bd hd
          have hD2 : Hid (∀ b ∈ s.data.toList.take (k + 1), isD b = true) := fun b hb => by
            rw [take_byte hlt] at hb
            rcases List.mem_append.1 hb with h | h
            · exact hD.out b h
            · rw [List.mem_singleton.1 h]; exact hd
          clear hd hD
          generalize byteAt s k = x at *
          go_wp2
          go_round
          case rel => exact ⟨k + 1, by omega, by go_num, hD2⟩
          case measure => simp [intOf]; omega
        · have hd : isD (byteAt s k) = false := by simpa using hd
          have HP : Hid (pKind s.data.toList = 1) := by show _ = _; unfold pKind; rw [if_pos (.inr ⟨_, byteAt_mem hlt, hd⟩)]
          have hbd := not_isD hd
          clear hd hD
          generalize byteAt s k = x at *
          rcases hbd with hbd | hbd
          all_goals
            go_wp2
            go_ret2
            exact .inl ⟨HP.out, _, _, rfl, inferInstance, inferInstance, (inferInstance : Kp w _).out⟩
      · obtain rfl : k = s.size := by omega
        have HA : Hid (∀ b ∈ s.data.toList, isD b = true) := fun b hb => hD.out b (by rw [HLEN.out, List.take_length]; exact hb)
        have hp : s.data.toList = [] ∨ (∃ b ∈ s.data.toList, isD b = false) → False := fun h => by
          rcases h with h | ⟨b, hb, h⟩
          · rw [HLEN.out, h] at hpos; exact absurd hpos (by simp)
          · rw [HA.out b hb] at h; cases h
        clear hD
        by_cases h4 : 4096 < s.size
        · have HP : Hid (pKind s.data.toList = 2) := by show _ = _; unfold pKind; rw [if_neg hp, if_pos (by rw [← HLEN.out]; exact h4)]
          clear hp
          go_wp2
          go_ret2
          exact .inr (.inl ⟨HP.out, _, _, rfl, inferInstance, inferInstance, (inferInstance : Kp w _).out⟩)
        · have HP : Hid (pKind s.data.toList = 0) := by show _ = _; unfold pKind; rw [if_neg hp, if_neg (by rw [← HLEN.out]; exact h4)]
          clear hp
          go_wp2
          go_loopw [0, 5] (fun sv ov wr => ∃ (r : ByteArray) (m : Nat), sv = .string r ∧ m ≤ s.size ∧ r.size + m = s.size ∧ Hid (r.data.toList = s.data.toList.drop m) ∧ Own wr w.heap.size ov (nf (bval (s.data.toList.take m))) ∧ Below w.heap.size w wr ∧ Hid (m = 0 ∨ r.size % 9 = 0)) (fun sv _ _ => strSize sv)
          case atStart => exact ⟨s, 0, rfl, Nat.zero_le _, by omega, by show _ = _; rw [List.drop_zero], Own.nil _ _, Below.refl _ _, .inl rfl⟩
          case round =>
            obtain ⟨r, m, rfl, hm, hrm, hr, hO, hB, h9⟩ := hrel
            obtain ⟨wo, hwo⟩ : ∃ wo : World, wo = wr := ⟨_, rfl⟩
            subst hwo
            by_cases hr0 : 0 < r.size
            · obtain ⟨q, hq⟩ : ∃ q, q = if r.size % 9 = 0 then 9 else r.size % 9 := ⟨_, rfl⟩
              have hq1 : 1 ≤ q ∧ q ≤ 9 ∧ q ≤ r.size ∧ (r.size - q) % 9 = 0 := by rw [hq]; split <;> omega
              have hq9 : Hid (m = 0 ∨ q = 9) := by
                rcases h9.out with h | h
                · exact .inl h
                · exact .inr (by rw [hq, if_pos h])
              have hrt : (r.size : Int).tmod 9 = ((r.size % 9 : Nat) : Int) := by rw [Int.tmod_eq_emod_of_nonneg (by omega)]; omega
              have hcase : ((r.size : Int).tmod 9 = 0 ∧ q = 9) ∨ ((r.size : Int).tmod 9 = (q : Int) ∧ 0 < q) := by
                rw [hrt, hq]
                split
                · left; omega
                · right; omega
              have hrl := str_len r
              have HRD : Hid (∀ k, k < r.size → isD (byteAt r k) = true) := fun k hk => HA.out _ (by
                have := byteAt_mem hk
                rw [hr.out] at this
                exact List.mem_of_mem_drop this)
              have HB : Hid (∀ k, k ≤ 9 → bval (r.data.toList.take k) < 10 ^ k) := fun k hk => by
                refine Nat.lt_of_lt_of_le (bval_lt _ (fun b hb => ?_)) (Nat.pow_le_pow_right (by omega) (by rw [List.length_take]; omega))
                have := List.mem_of_mem_take hb
                rw [hr.out] at this
                exact HA.out _ (List.mem_of_mem_drop this)
              have HT : Hid (bval (s.data.toList.take (m + q)) = bval (r.data.toList.take q) + 1000000000 * bval (s.data.toList.take m)) := by
                show _ = _
                have e : s.data.toList.take (m + q) = s.data.toList.take m ++ r.data.toList.take q := by rw [List.take_add, hr.out]
                unfold bval
                rw [e, bvalF_append, bvalF_eq]
                rcases hq9.out with h | h
                · subst h
                  rw [List.take_zero, bvalF_nil]; omega
                · have : (r.data.toList.take q).length = 9 := by rw [List.length_take]; omega
                  rw [this]; omega
              have HRL := Lib.hid hrl
              have hlenD := nf_bval_len (l := s.data.toList.take m) (fun b hb => HA.out b (List.mem_of_mem_take hb))
              have hlenD2 : (nf (bval (s.data.toList.take m))).length ≤ 4096 := by
                rw [List.length_take, ← HLEN.out] at hlenD; omega
              have HV := Lib.hid (val_nf (bval (s.data.toList.take m)))
              have hdD := dig_nf (bval (s.data.toList.take m))
              have HN : Hid (∃ V, nf (bval (s.data.toList.take m)) = nf V ∧ bval (s.data.toList.take m) = V) := ⟨_, rfl, rfl⟩
              generalize bval (s.data.toList.take m) = V at *
              clear hq hrt hrl h9 hlenD HN
              obtain ⟨av, capv, hov⟩ : ∃ a c, u5 = .slice a (nf V).length c := by
                rcases hO.shape with ⟨h, h'⟩ | ⟨g, cap, h, _⟩
                · exact ⟨none, 0, by rw [h, h']; rfl⟩
                · exact ⟨_, _, h⟩
              subst hov
              obtain ⟨hqa, hqb, hqc, hqd⟩ := hq1
              rcases hcase with ⟨hrem, hq'⟩ | ⟨hrem, hq'⟩
              all_goals
                go_wp2
                go_loop [7, 47] (fun c i => ∃ k : Nat, k ≤ q ∧ i = .int .i64 k ∧ c = .int .u64 ((bval (r.data.toList.take k) : Nat) : Int)) (fun _ i => q - (intOf i).toNat)
                case atStart => exact ⟨0, Nat.zero_le _, rfl, rfl⟩
                case round =>
                  obtain ⟨k, hk, rfl, rfl⟩ := hrel
                  by_cases hkq : k < q
                  · have hkr : k < r.size := by omega
                    have hix := ix_str r k hkr
                    obtain ⟨d0, d1, d2⟩ := isD_bd (HRD.out k hkr)
                    have HS : Hid (bval (r.data.toList.take (k + 1)) = 10 * bval (r.data.toList.take k) + bdig (byteAt r k)) := by show _ = _; rw [take_byte hkr]; exact bvalF_snoc 0 _ _
                    have hc8 : bval (r.data.toList.take k) < 100000000 := Nat.lt_of_lt_of_le (HB.out k (by omega)) (Nat.pow_le_pow_right (by omega : 0 < 10) (by omega : k ≤ 8))
                    have hbd : bdig (byteAt r k) = (byteAt r k).toNat - 48 := rfl
                    generalize bval (r.data.toList.take k) = c at *
                    generalize bdig (byteAt r k) = d at *
                    generalize (byteAt r k).toNat = x at *
                    obtain rfl : x = 48 + d := by omega
                    clear hbd
                    go_wp2
                    go_round
                    case rel => exact ⟨k + 1, by omega, by go_num, by rw [HS.out]; go_num⟩
                    case measure => simp [intOf]; omega
                  · obtain rfl : k = q := by omega
                    have hC0 : bval (r.data.toList.take k) < 1000000000 := Nat.lt_of_lt_of_le (HB.out k hqb) (Nat.pow_le_pow_right (by omega : 0 < 10) hqb)
                    have hsub : (r.extract k r.size).size = r.size - k := by rw [str_len, Lib.extract_data, List.length_take, List.length_drop, ← HRL.out]; omega
                    have hsubL : Hid ((r.extract k r.size).data.toList = s.data.toList.drop (m + k)) := by
                      show _ = _
                      rw [Lib.extract_data, List.take_of_length_le (by rw [List.length_drop, ← HRL.out]; omega), hr.out, List.drop_drop]
                    try (rw [hq'] at hsub hsubL)
                    clear HRD HB HRL
                    generalize bval (r.data.toList.take k) = C0 at *
                    go_wp2
                    go_loopw [7, 64] (fun c i wr => ∃ (j cn : Nat) (L : List Nat), j ≤ (nf V).length ∧ i = .int .i64 j ∧ c = .int .u64 cn ∧ cn ≤ 1000000000 ∧ Own wr w.heap.size (.slice av (nf V).length capv) L ∧ Hid (L.length = (nf V).length) ∧ Hid (L.drop j = (nf V).drop j) ∧ Below w.heap.size w wr ∧
                        Hid (val (L.take j) + 4294967296 ^ j * cn = C0 + 1000000000 * val ((nf V).take j))) (fun _ i _ => (nf V).length - (intOf i).toNat)
                    case atStart => exact ⟨0, C0, nf V, Nat.zero_le _, rfl, rfl, by omega, hO, rfl, rfl, hB, by show _ = _; simp [val_nil]⟩
                    case round =>
                      obtain ⟨j, cn, L, hj, rfl, rfl, hcn, hOL, hLn, hLd, hBr, hv⟩ := hrel
                      by_cases hjl : j < (nf V).length
                      · obtain ⟨g, cap', hgc, hR⟩ := hOL.form (by rw [hLn.out]; omega)
                        rw [hLn.out] at hgc
                        injection hgc with e1 e2 e3
                        subst e1; subst e3
                        have hRl := hR.lt
                        have hRc := hR.cap
                        rw [hLn.out] at hRc
                        have cR := hR.cell (j := j) (by rw [hLn.out]; omega)
                        have fR := hR.free j
                        have hxe : (nf V).getD j 0 = L.getD j 0 := by
                          have h1 := congrArg (fun l => l.getD 0 0) hLd.out
                          simpa [List.getD_eq_getElem?_getD, List.getElem?_drop] using h1.symm
                        have hxl := dig_get hR.dig j
                        have HST := fun (x : Nat) (hx : L.getD j 0 = x) => Lib.hid (@tens_step (nf V) L j cn x (by rw [hLn.out]; omega) hLn.out.symm (by rw [hxe]; exact hx) (by rw [← hx]; exact hxl) hcn C0 hv.out)
                        have HST := HST _ rfl
                        have hLd2 : ∀ d, Hid ((L.set j d).drop (j + 1) = (nf V).drop (j + 1)) := fun d => by
                          show _ = _
                          rw [List.drop_set_of_lt (by omega), ← List.drop_drop, hLd.out, List.drop_drop]
                        clear hxe hv hLd hO hOL
                        generalize L.getD j 0 = x at *
                        go_wp2
                        go_roundw
                        case rel =>
                          obtain ⟨s1, s2⟩ := HST.out
                          have e1 : ((cn : Int) + (x : Int) * 1000000000) = ((cn + x * 1000000000 : Nat) : Int) := by omega
                          rw [e1]
                          have e2 : ((cn + x * 1000000000 : Nat) : Int) % 4294967296 = (((cn + x * 1000000000) % 4294967296 : Nat) : Int) := by omega
                          rw [e2]
                          have e4 := hR.set j (d := (cn + x * 1000000000) % 4294967296) (by omega)
                          refine ⟨j + 1, (cn + x * 1000000000) / 4294967296, L.set j ((cn + x * 1000000000) % 4294967296), by omega, by go_num, by go_num, s1, ?_, by show _ = _; rw [List.length_set]; exact hLn.out, hLd2 _, hBr.setCell (show w.heap.size ≤ g from hRl.1) _, s2⟩
                          have e5 := e4
                          unfold Row at e5
                          rw [List.length_set, hLn.out] at e5
                          exact e5
                        case measure => simp [intOf]; omega
                      · obtain rfl : j = (nf V).length := by omega
                        have hv2 := hv.out
                        rw [List.take_length, HV.out, List.take_of_length_le (by rw [hLn.out]; omega), ← hLn.out] at hv2
                        have hdL := hOL.dig
                        have hTot : Hid (val L + 4294967296 ^ L.length * cn = bval (s.data.toList.take (m + k))) := by show _ = _; rw [HT.out, hv2]
                        have hVT : V ≤ bval (s.data.toList.take (m + k)) := by rw [HT.out]; omega
                        have hBs := hBr.size
                        have hcn' := hcn
                        clear hv hv2 HT HV hLd hO hcn hC0
                        have hcn32 : cn < 4294967296 := by
                          have := hcn'
                          omega
                        by_cases hc0 : 0 < cn
                        · have HNF := Lib.hid (tens_close2 hdL hc0 hcn32 hTot.out)
                          have hlN := hLn.out
                          clear hTot hVT hcn'
                          go_wp2_with (at_builtin; go_loud (refine app_u32 _ rfl (.tmp 84) (.tmp 87) 25 25 rfl Tryz.underlying25 Tryz.underlying25 w.heap.size _ _ L [cn] rfl rfl (hOL.keep (blw_one _ _)) (own_lit _ [cn] (dig_cons hcn32 dig_nil) (by simp) _ rfl).rd (by simp; omega) (by simp; omega) ?_); intro v1 w2 o1 g1 _)
                          have hB2 := own_grown (hOL.keep (blw_one _ _)) (blw_alloc hBr _) g1 (Nat.le_refl _)
                          go_roundw
                          case rel => exact ⟨_, m + k, rfl, by omega, by omega, (by first | exact hsubL | (rw [hq']; exact hsubL)), by rw [HNF.out]; exact o1, hB2, .inr (by rw [hsub]; omega)⟩
                          case measure => first | (show (r.extract k r.size).size < r.size; omega) | (show (r.extract 9 r.size).size < r.size; omega)
                        · obtain rfl : cn = 0 := by omega
                          have hTot2 := hTot.out
                          rw [Nat.mul_zero, Nat.add_zero] at hTot2
                          have HNF := Lib.hid (tens_close rfl hLn.out hdL hTot2 hVT)
                          clear hTot hTot2 hVT
                          go_wp2
                          go_roundw
                          case rel => exact ⟨_, m + k, rfl, by omega, by omega, (by first | exact hsubL | (rw [hq']; exact hsubL)), by rw [HNF.out]; exact hOL, hBr, .inr (by rw [hsub]; omega)⟩
                          case measure => first | (show (r.extract k r.size).size < r.size; omega) | (show (r.extract 9 r.size).size < r.size; omega)
            · have hms : m = s.size := by omega
              have hrz : r.size = 0 := by omega
              have htk : s.data.toList.take m = s.data.toList := by rw [hms, HLEN.out, List.take_length]
              rw [htk] at hO
              have hlenD := nf_bval_len HA.out
              rw [← HLEN.out] at hlenD
              have hrd := hO.rd
              obtain ⟨a, c, rfl, _⟩ := id hrd
              clear htk hr h9
              go_wp2
              go_ret2
              exact .inr (.inr ⟨HP.out, _, _, _, rfl, ⟨⟨hrd, by omega⟩⟩, hB⟩)
end Go.Proofs.YtdlnoeegboapkaaGreatDoor

/- Contract of integer.Parse. -/
namespace Go.Proofs.YtdlnoeegboapkaaGreatDoor
open Go.RowKit
set_option maxRecDepth 100000
set_option maxHeartbeats 40000000
set_option synthInstance.maxSize 100000
set_option synthInstance.maxHeartbeats 1000000

theorem ret_bt {P : Program} {fn : Func} {R : Ending → World → Prop} {a : Act} {W : World} {b : Nat} {p u : Tmp} {ty t : TypeId} {d : TypeDesc} {l l' : List Value} [hb : Bx W b t l] (hr : fn.results = #[.cell p ty, .tmp u])
    (hu : P.underlying ty = some d) (hd : (match d with | .struct _ | .array _ _ => true | _ => false) = true) (hi : (P.info? ty).map (·.size) = some l.length)
    (hp : a.tmps.getD p undef = .pointer (some ⟨b, 0, none⟩)) (hdf : a.defers = []) (hl : l = l') (hR : R (.returned (.tuple #[.agg l'.toArray, a.tmps.getD u undef])) W) : bodyPost P fn R .ret a W := by
  subst hl
  exact ret_ct hr hp (loadVar_at W b ty l d hu hd hi (fun j hj => by rw [cell_bx, List.getElem?_eq_getElem hj])) hdf hR
theorem parse1 {w w1 w2 : World} {s : ByteArray} {a0 a1 : Addr} (h0 : Snt w 0 a0 w1) (h1 : Snt w 2 a1 w2) (hsz : s.size ≤ 1000000000) (hk : pKind s.data.toList = 1) :
    Calls Tryz.prog 132 #[.string s] w (ErrRet w (.slice none 0 0) a0) := (parse_any s hsz).mono fun e w' h => by
  rcases h with h | h | h
  · exact h.2
  · rw [hk] at h; exact absurd h.1 (by decide)
  · rw [hk] at h; exact absurd h.1 (by decide)
theorem parse2 {w w1 w2 : World} {s : ByteArray} {a0 a1 : Addr} (h0 : Snt w 0 a0 w1) (h1 : Snt w 2 a1 w2) (hsz : s.size ≤ 1000000000) (hk : pKind s.data.toList = 2) :
    Calls Tryz.prog 132 #[.string s] w (ErrRet w (.slice none 0 0) a1) := (parse_any s hsz).mono fun e w' h => by
  rcases h with h | h | h
  · rw [hk] at h; exact absurd h.1 (by decide)
  · exact h.2
  · rw [hk] at h; exact absurd h.1 (by decide)
theorem parse0 {w w1 w2 : World} {s : ByteArray} {a0 a1 : Addr} (h0 : Snt w 0 a0 w1) (h1 : Snt w 2 a1 w2) (hsz : s.size ≤ 1000000000) {m : Nat} (hk : pKind s.data.toList = 0 ∧ bval s.data.toList = m) :
    Calls Tryz.prog 132 #[.string s] w (NumRet w m 4097) := (parse_any s hsz).mono fun e w' h => by
  obtain ⟨hk, rfl⟩ := hk
  rcases h with h | h | h
  · rw [hk] at h; exact absurd h.1 (by decide)
  · rw [hk] at h; exact absurd h.1 (by decide)
  · exact h.2
theorem pKind_cases (l : List UInt8) : pKind l = 1 ∨ pKind l = 2 ∨ pKind l = 0 := by
  unfold pKind
  split
  · exact .inl rfl
  · split
    · exact .inr (.inl rfl)
    · exact .inr (.inr rfl)
/-- The sign of an integer's text, its digits, its value. -/
def iNeg (l : List UInt8) : Bool := match l with | b :: _ => decide (b = 45) | [] => false
def iDig (l : List UInt8) : List UInt8 := if iNeg l = true then l.drop 1 else l
def iVal (l : List UInt8) : Int := sgn (iNeg l) (bval (iDig l))
def IntRet (w : World) (z : Int) (k : Nat) (e : Ending) (w' : World) : Prop :=
  ∃ g a l c, e = .returned (.tuple #[.agg #[.bool g, .slice a l c], .nilIface]) ∧ CZ w' (.agg #[.bool g, .slice a l c]) z k ∧ Below w.heap.size w w'
theorem Calls.kInt {P : Program} {f : FuncId} {args : Array Value} {w : World} {z : Int} {k : Nat} {K : Ending → World → Prop} (h : Calls P f args w (IntRet w z k))
    (hK : ∀ w' [Kp1 w w'] g a l c [CZ w' (.agg #[.bool g, .slice a l c]) z k], K (.returned (.tuple #[.agg #[.bool g, .slice a l c], .nilIface])) w') : Calls P f args w K := by
  refine h.mono ?_
  rintro e w' ⟨g, a, l, c, rfl, hx, hb⟩
  exact @hK w' ⟨hb⟩ g a l c hx
/-- What integer.Parse returns. -/
def IParsePost (w : World) (l : List UInt8) (a0 a1 : Addr) (e : Ending) (w' : World) : Prop :=
  (pKind (iDig l) = 1 ∧ ErrRet w (.agg #[.bool false, .slice none 0 0]) a0 e w') ∨ (pKind (iDig l) = 2 ∧ ErrRet w (.agg #[.bool false, .slice none 0 0]) a1 e w') ∨ (pKind (iDig l) = 0 ∧ IntRet w (iVal l) 4097 e w')
theorem iparse_any {w w1 w2 : World} (s : ByteArray) {a0 a1 : Addr} [h0 : Snt w 0 a0 w1] [h1 : Snt w 2 a1 w2] (hsz : s.size ≤ 1000000000) :
    Calls Tryz.prog 131 #[.string s] w (IParsePost w s.data.toList a0 a1) := by
  have i0 := h0.here
  have i1 := h1.here
  clear h0 h1
  have hlen := str_len s
  by_cases hn : iNeg s.data.toList = true
  · obtain ⟨t, ht⟩ : ∃ t, s.data.toList = 45 :: t := by
      cases hx : s.data.toList with
      | nil => rw [hx] at hn; cases hn
      | cons b t =>
        rw [hx] at hn
        exact ⟨t, by rw [of_decide_eq_true hn]⟩
    have hx : (s.extract 0 1).toList = [45] := by rw [Lib.extract_toList, ht]; rfl
    have hs1 : 1 ≤ s.size := by rw [hlen, ht]; simp
    have hdr : (s.extract 1 s.size).data.toList = iDig s.data.toList := by
      rw [Lib.extract_data, iDig, if_pos hn, List.take_of_length_le (by rw [List.length_drop, ← hlen]; omega)]
    have hds : (s.extract 1 s.size).size ≤ 1000000000 := by rw [str_len, hdr, iDig, if_pos hn, List.length_drop, ← hlen]; omega
    have HV : Hid (iVal s.data.toList = sgn true (bval (iDig s.data.toList))) := by show _ = _; unfold iVal; rw [hn]
    unfold IParsePost
    rw [← hdr]
    rw [← hdr] at HV
    clear hn ht hlen hdr
    generalize iVal s.data.toList = z at *
    rcases pKind_cases (s.extract 1 s.size).data.toList with hk | hk | hk
    · have HK := Lib.hid hk
      clear hk
      go_enter Tryz.func131, Tryz.ntmps131
      go_wp2_with (first
        | (go_at_call 132; (with_reducible refine Calls.kErr (parse1 inferInstance inferInstance hds HK.out) ?_); intros)
        | (go_at_call 189; (with_reducible refine Calls.cSg signedC ?_); intros)
        | go_in)
      refine ret_bt rfl Tryz.underlying27 rfl (by kernel_rfl) rfl rfl rfl ?_
      exact .inl ⟨HK.out, _, _, rfl, inferInstance, inferInstance, (inferInstance : Kp w _).out⟩
    · have HK := Lib.hid hk
      clear hk
      go_enter Tryz.func131, Tryz.ntmps131
      go_wp2_with (first
        | (go_at_call 132; (with_reducible refine Calls.kErr (parse2 inferInstance inferInstance hds HK.out) ?_); intros)
        | (go_at_call 189; (with_reducible refine Calls.cSg signedC ?_); intros)
        | go_in)
      refine ret_bt rfl Tryz.underlying27 rfl (by kernel_rfl) rfl rfl rfl ?_
      exact .inr (.inl ⟨HK.out, _, _, rfl, inferInstance, inferInstance, (inferInstance : Kp w _).out⟩)
    · have HK := Lib.hid hk
      clear hk
      go_enter Tryz.func131, Tryz.ntmps131
      go_wp2_with (first
        | (go_at_call 132; (with_reducible refine Calls.kNum (parse0 inferInstance inferInstance hds ⟨HK.out, rfl⟩) ?_); intros)
        | (go_at_call 189; (with_reducible refine Calls.cSg signedC ?_); intros)
        | go_in)
      refine ret_bt rfl Tryz.underlying27 rfl (by kernel_rfl) rfl rfl rfl ?_
      exact .inr (.inr ⟨HK.out, _, _, _, _, rfl, CZ.cast inferInstance HV.out.symm (Nat.le_refl _), (inferInstance : Kp w _).out⟩)
  · have hn' : iNeg s.data.toList = false := by simpa using hn
    have hdr : iDig s.data.toList = s.data.toList := by unfold iDig; rw [if_neg hn]
    have HV : Hid (iVal s.data.toList = sgn false (bval (iDig s.data.toList))) := by show _ = _; unfold iVal; rw [hn']
    have hcase : s.size = 0 ∨ (1 ≤ s.size ∧ ∃ b : UInt8, (s.extract 0 1).toList = [b] ∧ (b == 45) = false) := by
      rw [hlen, Lib.extract_toList]
      cases hx : s.data.toList with
      | nil => exact .inl rfl
      | cons b t =>
        rw [hx] at hn'
        exact .inr ⟨by simp, b, rfl, beq_eq_false_iff_ne.2 (of_decide_eq_false hn')⟩
    have hds := hsz
    unfold IParsePost
    rw [hdr]
    rw [hdr] at HV
    clear hn hn' hlen hdr
    generalize iVal s.data.toList = z at *
    rcases hcase with hx | ⟨hs1, b, hx, hb⟩
    all_goals
      rcases pKind_cases s.data.toList with hk | hk | hk
      · have HK := Lib.hid hk
        clear hk
        go_enter Tryz.func131, Tryz.ntmps131
        go_wp2_with (first
          | (go_at_call 132; (with_reducible refine Calls.kErr (parse1 inferInstance inferInstance hds HK.out) ?_); intros)
          | (go_at_call 189; (with_reducible refine Calls.cSg signedC ?_); intros)
          | go_in)
        refine ret_bt rfl Tryz.underlying27 rfl (by kernel_rfl) rfl rfl rfl ?_
        exact .inl ⟨HK.out, _, _, rfl, inferInstance, inferInstance, (inferInstance : Kp w _).out⟩
      · have HK := Lib.hid hk
        clear hk
        go_enter Tryz.func131, Tryz.ntmps131
        go_wp2_with (first
          | (go_at_call 132; (with_reducible refine Calls.kErr (parse2 inferInstance inferInstance hds HK.out) ?_); intros)
          | (go_at_call 189; (with_reducible refine Calls.cSg signedC ?_); intros)
          | go_in)
        refine ret_bt rfl Tryz.underlying27 rfl (by kernel_rfl) rfl rfl rfl ?_
        exact .inr (.inl ⟨HK.out, _, _, rfl, inferInstance, inferInstance, (inferInstance : Kp w _).out⟩)
      · have HK := Lib.hid hk
        clear hk
        go_enter Tryz.func131, Tryz.ntmps131
        go_wp2_with (first
          | (go_at_call 132; (with_reducible refine Calls.kNum (parse0 inferInstance inferInstance hds ⟨HK.out, rfl⟩) ?_); intros)
          | (go_at_call 189; (with_reducible refine Calls.cSg signedC ?_); intros)
          | go_in)
        refine ret_bt rfl Tryz.underlying27 rfl (by kernel_rfl) rfl rfl rfl ?_
        exact .inr (.inr ⟨HK.out, _, _, _, _, rfl, CZ.cast inferInstance HV.out.symm (Nat.le_refl _), (inferInstance : Kp w _).out⟩)
end Go.Proofs.YtdlnoeegboapkaaGreatDoor

/- Texts of naturals and integers. printed by a small program (mkfmt.py). -/
namespace Go.Proofs.YtdlnoeegboapkaaGreatDoor
open Go.RowKit
set_option maxRecDepth 100000
set_option maxHeartbeats 40000000
set_option synthInstance.maxSize 100000
set_option synthInstance.maxHeartbeats 1000000

/-- What an integer is written as. -/
def decI (x : Int) : ByteArray := if x < 0 then ⟨#[45]⟩ ++ decStr x.natAbs else decStr x.natAbs
theorem decStr_size (m : Nat) : (decStr m).size ≤ 1 + (dl m).length := by
  show (((decBytes m).map UInt8.ofNat).toArray).size ≤ _
  simp only [List.size_toArray, List.length_map]
  unfold decBytes
  split <;> simp
theorem natFormatC {w : World} {a1 : Option Addr} {l1 c1 m k1 : Nat} [h1 : CR w (.slice a1 l1 c1) m k1] (b : k1 ≤ 900000 ∧ (dl m).length ≤ 100000000) :
    Calls Tryz.prog 195 #[.slice a1 l1 c1] w fun e w' => e = .returned (.string (decStr m)) ∧ Below w.heap.size w w' := by
  obtain ⟨l, h, rfl, hl⟩ := h1.out
  exact format_any w _ l h (by omega) b.2
theorem intFormatC {w : World} {g1 : Bool} {a1 : Option Addr} {l1 c1 : Nat} {x : Int} {k1 : Nat} [h1 : CI w (.agg #[.bool g1, .slice a1 l1 c1]) x k1] (b : k1 ≤ 900000 ∧ (dl x.natAbs).length ≤ 100000000) :
    Calls Tryz.prog 193 #[.agg #[.bool g1, .slice a1 l1 c1]] w fun e w' => e = .returned (.string (decI x)) ∧ Below w.heap.size w w' := by
  obtain ⟨m, hz, hx⟩ := zi_of h1
  have i1 : CR w (.slice a1 l1 c1) m k1 := ⟨hz⟩
  have hm : x.natAbs = m := by rw [hx, sgn_abs]
  clear hz hx
  subst hm
  by_cases hx : x < 0
  · have hs : isgn x = -1 := by unfold isgn; rw [if_pos hx]
    have HD : Hid (decI x = ⟨#[45]⟩ ++ decStr x.natAbs) := if_pos hx
    have hsz0 := decStr_size x.natAbs
    have hsz : (9223372036854775807 < 1 + (decStr x.natAbs).size) ↔ False := ⟨fun h => by omega, False.elim⟩
    clear hx hsz0
    go_enter Tryz.func193, Tryz.ntmps193
    go_wp2_with (first
    | (go_at_call 195; (with_reducible refine Calls.cE (natFormatC (by omega)) ?_); intros)
    | (go_at_call 235; (with_reducible refine Calls.cE (intSignC (by omega)) ?_); intros))
    go_ret
    exact E.fin (by rw [HD.out]; rfl)
  · have hs : isgn x < 0 ↔ False := by unfold isgn; rw [if_neg hx]; split <;> simp
    have HD : Hid (decI x = decStr x.natAbs) := if_neg hx
    clear hx
    go_enter Tryz.func193, Tryz.ntmps193
    go_wp2_with (first
    | (go_at_call 195; (with_reducible refine Calls.cE (natFormatC (by omega)) ?_); intros)
    | (go_at_call 235; (with_reducible refine Calls.cE (intSignC (by omega)) ?_); intros))
    go_ret
    exact E.fin (by rw [HD.out]; rfl)

end Go.Proofs.YtdlnoeegboapkaaGreatDoor
