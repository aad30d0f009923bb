import Derived.Test.YtpnpnlmlamfpmaaGreatDoorS02
import Derived.Test.YtpnpnlmlamfpmaaGreatDoorS04
import Derived.LaidEql
import Derived.Laws.BytesArg
import Derived.RowKitTokens
import Derived.Stop.Asserts
namespace Go.Proofs.YtpnpnlmlamfpmaaGreatDoor
open Go.RowKit
set_option maxHeartbeats 40000000
set_option maxRecDepth 100000
set_option synthInstance.maxHeartbeats 1000000
set_option synthInstance.maxSize 100000
section
namespace Cel
structure Fam (S : LQ → Prop) : Prop where
 ok : ∀ l, S l → l.ok
 rev : ∀ l, S l → S (rev l)
 one : ∀ l m, S l → S m → One l m
namespace Tr
def restrict : Tr → List FQ → Tr
 | leaf b, _ => leaf b
 | node l x y, C => if (clip C (rev l)).2 = false then x.restrict C else if (clip C l).2 = false then y.restrict C else join l (x.restrict (clip C l).1) (y.restrict (clip C (rev l)).1)
def merge : Tr → Tr → List FQ → Tr
 | leaf a, b, C => if a then (b.restrict C).compl else b.restrict C
 | node l x y, b, C => if (clip C (rev l)).2 = false then x.merge b C else if (clip C l).2 = false then y.merge b C else join l (x.merge b (clip C l).1) (y.merge b (clip C (rev l)).1)
theorem restr_congr {t : Tr} : ∀ {C D : List LQ}, (∀ p, Inn C p ↔ Inn D p) → t.restr C = t.restr D := by
 induction t with
 | leaf b => exact fun _ => rfl
 | node l x y ihx ihy =>
  intro C D h
  have h1 : x.restr (l :: C) = x.restr (l :: D) := ihx (fun p => by rw [inn_cons, inn_cons, h])
  have h2 : y.restr (Cel.rev l :: C) = y.restr (Cel.rev l :: D) := ihy (fun p => by rw [inn_cons, inn_cons, h])
  have e : Inn C = Inn D := funext fun p => propext (h p)
  unfold restr; rw [e, ihx h, ihy h, h1, h2]
theorem mer_congr {t b : Tr} : ∀ {C D : List LQ}, (∀ p, Inn C p ↔ Inn D p) → t.mer b C = t.mer b D := by
 induction t with
 | leaf a => exact fun h => by unfold mer; rw [restr_congr h]
 | node l x y ihx ihy =>
  intro C D h
  have h1 : x.mer b (l :: C) = x.mer b (l :: D) := ihx (fun p => by rw [inn_cons, inn_cons, h])
  have h2 : y.mer b (Cel.rev l :: C) = y.mer b (Cel.rev l :: D) := ihy (fun p => by rw [inn_cons, inn_cons, h])
  have e : Inn C = Inn D := funext fun p => propext (h p)
  unfold mer; rw [e, ihx h, ihy h, h1, h2]
end Tr
structure CellS (S : LQ → Prop) (C : List FQ) : Prop where
 ok : CellOK C
 of : ∀ s ∈ C, S s.l
theorem CellS.nil {S : LQ → Prop} : CellS S [] := ⟨CellOK.nil, fun s hs => by simp at hs⟩
section
variable {S : LQ → Prop}
theorem CellS.clip (hS : Fam S) {C : List FQ} (h : CellS S C) {l : LQ} (hl : S l) : ((clip C l).2 = true ↔ ∃ q, Inn (lns C) q ∧ 0 < l.val q) ∧ ((clip C l).2 = true → CellS S (clip C l).1 ∧ (∀ p, Inn (lns (clip C l).1) p ↔ Inn (lns C) p ∧ 0 < l.val p)) := by
 obtain ⟨h1, h2, h3⟩ := Qcu h.ok (hS.ok l hl) (fun s hs => ⟨hS.one _ _ hl (h.of s hs), hS.one _ _ (h.of s hs) hl⟩)
 refine ⟨h1, fun h4 => ⟨⟨(h2 h4).1, fun r hr => ?_⟩, (h2 h4).2⟩⟩
 rcases h3 r hr with e | ⟨s, hs, e⟩
 ·rw [e]; exact hl
 ·rw [← e]; exact h.of s hs
theorem Kd (hS : Fam S) {C : List FQ} (h : CellS S C) {l : LQ} (hl : S l) : (clip C l).2 = false ↔ ¬ ∃ q, Inn (lns C) q ∧ 0 < l.val q := by
 rw [← (h.clip hS hl).1]; simp
theorem Mc (hS : Fam S) {C : List FQ} (h : CellS S C) {l : LQ} (hl : S l) : (clip C (rev l)).2 = false ↔ ¬ ∃ q, Inn (lns C) q ∧ l.val q < 0 := by
 rw [Kd hS h (hS.rev l hl)]
 have : ∀ q, (0 < (rev l).val q ↔ l.val q < 0) := fun q => by rw [Cp]; grind
 simp only [this]
theorem Tr.restrict_eq (hS : Fam S) {t : Tr} : ∀ {C : List FQ}, CellS S C → (∀ l ∈ t.lines, S l) → t.restrict C = t.restr (lns C) := by
 induction t with
 | leaf b => exact fun _ _ => rfl
 | node l x y ihx ihy =>
  intro C hC hl
  have h0 : S l := hl l (by simp [lines])
  have hx := fun {D} (hD : CellS S D) => ihx hD (fun m hm => hl m (by simp [lines, hm]))
  have hy := fun {D} (hD : CellS S D) => ihy hD (fun m hm => hl m (by simp [lines, hm]))
  unfold restrict restr
  by_cases h1 : ∃ q, Inn (lns C) q ∧ l.val q < 0
  ·rw [if_neg (fun e => (Mc hS hC h0).1 e h1), if_neg (not_not_intro h1)]
   by_cases h2 : ∃ q, Inn (lns C) q ∧ 0 < l.val q
   ·rw [if_neg (fun e => (Kd hS hC h0).1 e h2), if_neg (not_not_intro h2)]; obtain ⟨a1, a2⟩ := (hC.clip hS h0).2 ((hC.clip hS h0).1.2 h2)
    obtain ⟨b1, b2⟩ := (hC.clip hS (hS.rev l h0)).2 ((hC.clip hS (hS.rev l h0)).1.2 (by obtain ⟨q, q1, q2⟩ := h1; exact ⟨q, q1, by rw [Cp]; grind⟩))
    rw [hx a1, hy b1]; exact congr (congrArg _ (restr_congr (fun p => by rw [a2, inn_cons, and_comm]))) (restr_congr (fun p => by rw [b2, inn_cons, and_comm]))
   ·rw [if_pos ((Kd hS hC h0).2 h2), if_pos h2, hy hC]
  ·rw [if_pos ((Mc hS hC h0).2 h1), if_pos h1, hx hC]
theorem Tr.merge_eq (hS : Fam S) {b : Tr} (hb : ∀ l ∈ b.lines, S l) {t : Tr} : ∀ {C : List FQ}, CellS S C → (∀ l ∈ t.lines, S l) → t.merge b C = t.mer b (lns C) := by
 induction t with
 | leaf a => exact fun hC _ => by unfold merge mer; rw [restrict_eq hS hC hb]
 | node l x y ihx ihy =>
  intro C hC hl
  have h0 : S l := hl l (by simp [lines])
  have hx := fun {D} (hD : CellS S D) => ihx hD (fun m hm => hl m (by simp [lines, hm]))
  have hy := fun {D} (hD : CellS S D) => ihy hD (fun m hm => hl m (by simp [lines, hm]))
  unfold merge mer
  by_cases h1 : ∃ q, Inn (lns C) q ∧ l.val q < 0
  ·rw [if_neg (fun e => (Mc hS hC h0).1 e h1), if_neg (not_not_intro h1)]
   by_cases h2 : ∃ q, Inn (lns C) q ∧ 0 < l.val q
   ·rw [if_neg (fun e => (Kd hS hC h0).1 e h2), if_neg (not_not_intro h2)]; obtain ⟨a1, a2⟩ := (hC.clip hS h0).2 ((hC.clip hS h0).1.2 h2)
    obtain ⟨b1, b2⟩ := (hC.clip hS (hS.rev l h0)).2 ((hC.clip hS (hS.rev l h0)).1.2 (by obtain ⟨q, q1, q2⟩ := h1; exact ⟨q, q1, by rw [Cp]; grind⟩))
    rw [hx a1, hy b1]; exact congr (congrArg _ (mer_congr (fun p => by rw [a2, inn_cons, and_comm]))) (mer_congr (fun p => by rw [b2, inn_cons, and_comm]))
   ·rw [if_pos ((Kd hS hC h0).2 h2), if_pos h2, hy hC]
  ·rw [if_pos ((Mc hS hC h0).2 h1), if_pos h1, hx hC]
def bpart (acc : Rat × Rat → Bool) : Nat → List FQ → List FQ → Tr
 | 0, _, C => .leaf (acc (inner C))
 | _ + 1, [], C => .leaf (acc (inner C))
 | n + 1, f :: L, C => .node f.l (bpart acc n (kept (f :: L) f.l) (clip C f.l).1) (bpart acc n (kept (f :: L) (rev f.l)) (clip C (rev f.l)).1)
theorem Jr (C : List FQ) (l : LQ) : (kept C l).length ≤ C.length := by
 unfold kept
 induction C with
 | nil => simp
 | cons s C ih =>
  rw [List.flatMap_cons, List.length_append, List.length_cons]
  split
  ·simp only [List.length_cons, List.length_nil]; omega
  ·simp only [List.length_nil]; omega
theorem Ps {f : FQ} (h : f.l.ok) (L : List FQ) : kept (f :: L) f.l = kept L f.l := by
 unfold kept; rw [List.flatMap_cons]
 have : (f.l.cut f.v f.l).2 = false := by unfold LQ.cut; rw [if_pos LQ.kk_self, LQ.cc_self h]; rfl
 rw [this]; rfl
theorem Qje {l : LQ} : l.kk (rev l) = 0 := by unfold LQ.kk rev; grind
theorem Qj8 {l : LQ} (h : l.ok) : l.cc (rev l) = 0 := by
 have := LQ.cc_self h
 unfold LQ.cc at *
 rw [Cp, this]; rfl
theorem O4 {f : FQ} (h : f.l.ok) (L : List FQ) : kept (f :: L) (rev f.l) = kept L (rev f.l) := by
 unfold kept; rw [List.flatMap_cons]
 have : (f.l.cut f.v (rev f.l)).2 = false := by unfold LQ.cut; rw [if_pos Qje, Qj8 h]; rfl
 rw [this]; rfl
def Ob (L : List FQ) (p : Rat × Rat) : Prop := ∃ f ∈ L, ∃ t, f.v.Has t ∧ f.l.at' t = p
def M7 (L : List FQ) (p q : Rat × Rat) : Prop := ∀ u : Rat, 0 ≤ u → u ≤ 1 → ¬ Ob L (btw u p q)
theorem Qhz {L : List FQ} (hv : ∀ f ∈ L, f.v.empty = false) {l : LQ} {p : Rat × Rat} (hp : 0 < l.val p) (h : Ob L p) : Ob (kept L l) p := by
 obtain ⟨f, hf, t, ht, rfl⟩ := h; obtain ⟨h1, h2⟩ := LQ.cut_has (hv f hf) ht hp; exact ⟨_, Qfa.2 ⟨f, hf, h1, rfl⟩, t, h2, rfl⟩
theorem Qdj {L : List FQ} (hv : ∀ f ∈ L, f.v.empty = false) {l : LQ} : ∀ f ∈ kept L l, f.v.empty = false := by
 intro f hf; obtain ⟨s, hs, h1, rfl⟩ := Qfa.1 hf; exact ((LQ.cut_spec (hv s hs)).2 h1).1
theorem Ko {L : List FQ} (hS : ∀ f ∈ L, S f.l) {l : LQ} : ∀ f ∈ kept L l, S f.l := by
 intro f hf; obtain ⟨s, hs, h1, rfl⟩ := Qfa.1 hf; exact hS s hs
theorem Wo (hS : Fam S) {acc : Rat × Rat → Bool} : ∀ {n : Nat} {L C : List FQ}, L.length ≤ n → CellS S C → (∀ f ∈ L, S f.l) → (∀ f ∈ L, f.v.empty = false) →
  (∀ p q, Inn (lns C) p → Inn (lns C) q → M7 L p q → acc p = acc q) → ∀ p, Inn (lns C) p → (bpart acc n L C).Off p → (bpart acc n L C).at' p = acc p := by
 have leaf : ∀ {C : List FQ}, CellS S C → (∀ p q, Inn (lns C) p → Inn (lns C) q → M7 [] p q → acc p = acc q) → ∀ p, Inn (lns C) p → acc (inner C) = acc p := fun hC h p hp =>
  h _ _ (Qi0 hC.ok) hp (fun u _ _ ⟨f, hf, _⟩ => by simp at hf)
 intro n
 induction n with
 | zero =>
  intro L C hn hC _ _ h p hp _
  have : L = [] := List.eq_nil_of_length_eq_zero (by omega)
  subst this; exact leaf hC h p hp
 | succ n ih =>
  intro L C hn hC hL hv h p hp ho
  cases L with
  | nil => exact leaf hC h p hp
  | cons f L =>
   have hf : S f.l := hL f (by simp)
   have hok := hS.ok _ hf
   obtain ⟨h0, ho1, ho2⟩ := Tr.off_node ho
   have step : ∀ l : LQ, S l → 0 < l.val p → (kept (f :: L) l).length ≤ n → (bpart acc n (kept (f :: L) l) (clip C l).1).Off p → (bpart acc n (kept (f :: L) l) (clip C l).1).at' p = acc p := by
    intro l hl hlp hlen hoff; obtain ⟨a1, a2⟩ := (hC.clip hS hl).2 ((hC.clip hS hl).1.2 ⟨p, hp, hlp⟩)
    refine ih hlen a1 (Ko hL) (Qdj hv) (fun x y hx hy hc => ?_) p ((a2 p).2 ⟨hp, hlp⟩) hoff
    obtain ⟨x1, x2⟩ := (a2 x).1 hx; obtain ⟨y1, y2⟩ := (a2 y).1 hy
    refine h x y x1 y1 (fun u u0 u1 ht => hc u u0 u1 (Qhz hv ?_ ht))
    rw [E4]; exact K8 u0 u1 x2 y2
   show (if 0 < f.l.val p then (bpart acc n (kept (f :: L) f.l) (clip C f.l).1).at' p else (bpart acc n (kept (f :: L) (rev f.l)) (clip C (rev f.l)).1).at' p) = acc p
   simp only [List.length_cons] at hn
   split
   ·next hlt => exact step f.l hf hlt (by rw [Ps hok]; have := Jr L f.l; omega) ho1
   ·next hlt => exact step (rev f.l) (hS.rev _ hf) (by rw [Cp]; grind) (by rw [O4 hok]; have := Jr L (rev f.l); omega) ho2
theorem L5 {acc : Rat × Rat → Bool} : ∀ {n : Nat} {L C : List FQ}, (∀ f ∈ L, S f.l) → ∀ l ∈ (bpart acc n L C).lines, S l := by
 intro n
 induction n with
 | zero => exact fun _ l hl => by simp [bpart, Tr.lines] at hl
 | succ n ih =>
  intro L C hL l hl
  cases L with
  | nil => simp [bpart, Tr.lines] at hl
  | cons f L =>
   simp only [bpart, Tr.lines, List.mem_cons, List.mem_append] at hl
   rcases hl with rfl | hl | hl
   ·exact hL f (by simp)
   ·exact ih (Ko hL) l hl
   ·exact ih (Ko hL) l hl
end
namespace Tr
def img (f : LQ → LQ) : Tr → Tr
 | leaf b => leaf b
 | node l x y => node (f l) (x.img f) (y.img f)
variable {f : LQ → LQ} {t : Tr}
theorem img_lines : ∀ m ∈ (t.img f).lines, ∃ l ∈ t.lines, f l = m := by
 induction t with
 | leaf b => exact fun m hm => by simp [img, lines] at hm
 | node l x y ihx ihy =>
  intro m hm; simp only [img, lines, List.mem_cons, List.mem_append] at hm ⊢
  rcases hm with rfl | hm | hm
  ·exact ⟨l, .inl rfl, rfl⟩
  ·obtain ⟨k, h1, h2⟩ := ihx m hm; exact ⟨k, .inr (.inl h1), h2⟩
  ·obtain ⟨k, h1, h2⟩ := ihy m hm; exact ⟨k, .inr (.inr h1), h2⟩
theorem img_at {M : Rat × Rat → Rat × Rat} (h : ∀ l ∈ t.lines, ∀ p, (0 < (f l).val (M p) ↔ 0 < l.val p)) (p : Rat × Rat) : (t.img f).at' (M p) = t.at' p := by
 induction t with
 | leaf b => rfl
 | node l x y ihx ihy =>
  have h1 := ihx (fun m hm => h m (by simp [lines, hm]))
  have h2 := ihy (fun m hm => h m (by simp [lines, hm]))
  simp only [img, at', h1, h2, h l (by simp [lines]) p]
variable {S : LQ → Prop}
theorem merge_leaf (hS : Fam S) {a b : Tr} (ha : ∀ l ∈ a.lines, S l) (hb : ∀ l ∈ b.lines, S l) (K : List LQ) (hK : ∀ l ∈ K, l.ok) (h : ∀ p, (∀ l ∈ K, l.val p ≠ 0) → a.at' p = b.at' p) : a.merge b [] = leaf false := by
 rw [merge_eq hS hb CellS.nil ha]
 refine mer_leaf (fun l hl => hS.ok l (hb l hl)) ⟨(0, 0), fun s hs => by simp [lns] at hs⟩ (fun l hl => hS.ok l (ha l hl)) (fun p hp hoa hob => ?_)
 refine ext_off (K := a.lines ++ b.lines) (L := K) (D := lns []) (P := fun p => (a.at' p ^^ b.at' p) = false) hK (fun u p hs hu => ?_) (fun p hp ho => ?_) p hp (fun m hm => ?_)
 ·show (a.at' p ^^ b.at' p) = false
  rw [← same_at a (fun m hm => hs m (List.mem_append.2 (.inl hm))), ← same_at b (fun m hm => hs m (List.mem_append.2 (.inr hm)))]; exact hu
 ·show (a.at' p ^^ b.at' p) = false
  rw [h p ho]; simp
 ·rcases List.mem_append.1 hm with hm | hm
  ·exact hoa m hm
  ·exact hob m hm
theorem reduce_at (hS : Fam S) (ht : ∀ l ∈ t.lines, S l) {p : Rat × Rat} (ho : t.Off p) : (t.restrict []).at' p = t.at' p := by
 rw [restrict_eq hS CellS.nil ht]; exact restr_at (fun s hs => by simp [lns] at hs) ho
theorem reduce_lines (hS : Fam S) (ht : ∀ l ∈ t.lines, S l) : ∀ l ∈ (t.restrict []).lines, S l := by
 rw [restrict_eq hS CellS.nil ht]
 exact fun l hl => ht l (restr_lines l hl)
theorem size_depth (t : Tr) : t.size + 1 ≤ 2 ^ t.depth := by
 induction t with
 | leaf b => simp [size, depth]
 | node l x y ihx ihy =>
  simp only [size, depth]
  have h1 : 2 ^ x.depth ≤ 2 ^ max x.depth y.depth := Nat.pow_le_pow_right (by decide) (Nat.le_max_left _ _)
  have h2 : 2 ^ y.depth ≤ 2 ^ max x.depth y.depth := Nat.pow_le_pow_right (by decide) (Nat.le_max_right _ _)
  rw [Nat.add_comm 1 (max _ _), Nat.pow_succ]; omega
theorem img_depth : (t.img f).depth = t.depth := by
 induction t with
 | leaf b => rfl
 | node l x y ihx ihy => simp only [img, depth, ihx, ihy]
theorem restrict_depth : ∀ {C : List FQ}, (t.restrict C).depth ≤ t.depth := by
 induction t with
 | leaf b => exact fun {C} => Nat.le_refl _
 | node l x y ihx ihy =>
  intro C
  have hx : ∀ D, (x.restrict D).depth ≤ x.depth := fun D => ihx
  have hy : ∀ D, (y.restrict D).depth ≤ y.depth := fun D => ihy
  unfold restrict
  split
  ·have := hx C; simp only [depth]; omega
  ·split
   ·have := hy C; simp only [depth]; omega
   ·have := join_depth (l := l) (x := x.restrict (clip C l).1) (y := y.restrict (clip C (Cel.rev l)).1)
    have := hx (clip C l).1
    have := hy (clip C (Cel.rev l)).1
    simp only [depth]; omega
end Tr
theorem Kx {acc : Rat × Rat → Bool} : ∀ {n : Nat} {L C : List FQ}, (bpart acc n L C).depth ≤ n := by
 intro n
 induction n with
 | zero => exact fun {L C} => Nat.le_refl _
 | succ n ih =>
  intro L C
  cases L with
  | nil => exact Nat.zero_le _
  | cons f L =>
   have h1 := ih (L := kept (f :: L) f.l) (C := (clip C f.l).1)
   have h2 := ih (L := kept (f :: L) (rev f.l)) (C := (clip C (rev f.l)).1)
   simp only [bpart, Tr.depth]; omega
end Cel
end

def dlF : Nat → Nat → List Nat
 | 0, _ => []
 | f + 1, n => if n = 0 then [] else (n % 10) :: dlF f (n / 10)
def dl (n : Nat) : List Nat := dlF n n
def Qie (n : Nat) : List Nat := if n = 0 then [48] else ((dl n).map (fun d => 48 + d)).reverse
def Qnv (n : Nat) : ByteArray := ⟨((Qie n).map UInt8.ofNat).toArray⟩
def p10 (k : Nat) : Nat := 10 ^ k
def asc (l : List Nat) : List Nat := l.map (fun d => 48 + d)
def Sf : Prop := ∀ (w : World) (a b : Option Addr) (capa capb m n : Nat), 2 ≤ (nf n).length → n ≤ m → (nf m).length ≤ 1000000 → (nf m).length ≤ capa → (nf n).length ≤ capb → capa ≤ 9223372036854775807 → capb ≤ 9223372036854775807 → C5 w a (nf m) → C5 w b (nf n) →
 Calls Tryz.prog 225 #[.slice a (nf m).length capa, .slice b (nf n).length capb] w fun e w' => ∃ q r, e = .returned (.tuple #[q, r]) ∧ Own w' w.heap.size q (nf (m / n)) ∧ Own w' w.heap.size r (nf (m % n)) ∧ Below w.heap.size w w'
def Qa4 (w : World) (m n : Nat) (e : Ending) (w' : World) : Prop :=
 ∃ q r, e = .returned (.tuple #[q, r, .bool (decide (n ≠ 0))]) ∧ Own w' w.heap.size q (nf (m / n)) ∧ Own w' w.heap.size r (nf (if n = 0 then 0 else m % n)) ∧ Below w.heap.size w w'
theorem Uc (w : World) (u v : Value) (la lb : List Nat) (hu : Rd w u la) (hv : Rd w v lb) (hla : la.length ≤ 1000000) (hlong : val lb < 4294967296 ∨ Sf) :
  Calls Tryz.prog 190 #[u, v] w (Qa4 w (val la) (val lb)) := by
 have hle1 := Dr hu.dig
 go_enter Tryz.func190, Tryz.ntmps190; go_wp2_with fail
 refine (D3 _ _ _ hu).mono ?_
 rintro e w1 ⟨u', rfl, hu', rfl⟩
 go_wp2_with fail
 refine (D3 _ _ _ hv).mono ?_
 rintro e w1 ⟨v', rfl, hv', rfl⟩
 have hxl : (nf (val la)).length ≤ 1000000 := (by omega)
 generalize val la = m, val lb = n at *
 have hu2 := hu'
 have hv2 := hv'
 obtain ⟨b, capb, rfl, hcb, hcbm, hdb, hrb⟩ := hv'; clear hu hv hle1 hla
 by_cases hn : n = 0
 ·subst hn
  have hl0 : (nf 0).length = 0 := rfl
  generalize (nf 0).length = k at *
  subst hl0; go_wp2
  go_ret3
  exact ⟨_, _, rfl, by rw [Nat.div_zero]; exact Own.nil _ _, Own.nil _ _, Below.refl _ _⟩
 ·have hp := Bw hn
  have hb0 : (((nf n).length : Int) == 0) = false := by rw [beq_eq_false_iff_ne]; omega
  have HD := Lib.hid (decide_eq_true (show n ≠ 0 from hn)); have HI := Lib.hid (show (if n = 0 then 0 else m % n) = m % n from if_neg hn); go_wp2_with fail
  refine (Z5 _ _ _ _ _ hu2 hv2).mono ?_
  rintro e w2 ⟨rfl, hb2⟩
  rw [Ah, Ah]
  by_cases hlt : m < n
  ·rw [Fl hlt]; have HQ := Lib.hid (Nat.div_eq_of_lt hlt); have HR := Lib.hid (Nat.mod_eq_of_lt hlt); clear hlt hn; go_wp2_with fail
   refine (Zq _ _ _ (hu2.keep hb2) hxl).mono ?_
   rintro e w3 ⟨z, rfl, hz, hb3⟩
   go_wp2
   go_ret3
   exact ⟨_, _, by rw [HD.out]; rfl, by rw [HQ.out]; exact Own.nil _ _, by rw [HI.out, HR.out]; exact hz.mono hb2.size, hb2.trans (hb3.mono hb2.size)⟩
  ·have hge : 0 ≤ Av m n := by unfold Av; rw [if_neg hlt]; split <;> omega
   generalize Av m n = c at *
   by_cases h1 : (nf n).length = 1
   ·obtain ⟨ba, off, rfl, hcell⟩ := hrb hp
    have c0 := (hb2.cell (C5.below hrb hp _ _ rfl)).trans (hcell 0 hp)
    have hval := Ah n
    have hd0 := An hdb 0
    have hn0 : (nf n).getD 0 0 = n := by
     match hl : nf n, h1, hval with
     | [d], _, hval => rw [Bp, Ay] at hval; simpa using hval
    rw [hn0] at c0 hd0; rw [Nat.add_zero] at c0
    have hs := Qhl w2 _ _ n (hu2.keep hb2) hxl (by omega) hd0
    rw [Ah] at hs
    have hml : m % n < n := Nat.mod_lt _ (by omega)
    have hf := fun w => Q3 w (m % n) (by omega)
    unfold U1 at hs
    have hb1 : (((nf n).length : Int) == 1) = true := by rw [h1]; rfl
    generalize hqq : m / n = q0 at hs
    generalize hrr : m % n = r0 at hs hml hf
    have HQQ := Lib.hid hqq; have HRR := Lib.hid hrr; clear hqq hrr; clear hval hn0 hcell hlong h1; go_wp2_with fail
    refine hs.mono ?_
    rintro e w3 ⟨z, rfl, hz, hb3⟩
    have hb23 := hb2.trans (hb3.mono hb2.size)
    have HS := Lib.hid hs; clear hs; go_wp2_with fail
    refine (hf _).mono ?_
    rintro e w4 ⟨y, rfl, hy, hb4⟩
    go_wp2
    go_ret3
    exact ⟨_, _, by rw [HD.out]; rfl, by rw [HQQ.out]; exact (hz.mono hb2.size).keep hb4, by rw [HI.out, HRR.out]; exact hy.mono (Nat.le_trans hb2.size hb3.size), hb23.trans (hb4.mono hb23.size)⟩
   ·have hb1 : (((nf n).length : Int) == 1) = false := by rw [beq_eq_false_iff_ne]; omega
    have hL : Sf := by
     rcases hlong with h | h
     ·exfalso
      have := Bi (n := n) (k := 1) (by simpa using h)
      omega
     ·exact h
    have hu3 := hu2.keep hb2
    have hrb3 := hrb.keep hb2
    obtain ⟨a, capa, rfl, hca, hcam, hda, hra⟩ := hu3
    have hs := hL w2 a b capa capb m n (by omega) (by omega) hxl hca hcb hcam hcbm hra hrb3
    have HS := Lib.hid hs; have HL := Lib.hid hL; clear hs hL hlong; go_wp2_with fail
    refine HS.out.mono ?_
    rintro e w3 ⟨q, r, rfl, hq, hr, hb3⟩
    go_wp2
    go_ret3
    exact ⟨_, _, by rw [HD.out]; rfl, hq.mono hb2.size, by rw [HI.out]; exact hr.mono hb2.size, hb2.trans (hb3.mono hb2.size)⟩
theorem Qg8 {w : World} {b : Nat} (hb : w.heap.size = b) (l : List Nat) (hd : Dig l) (hl : l.length ≤ 1000000) (cs : Array Value) (hcs : cs = (l.map dv).toArray) (n : Nat) (hn : n = l.length) :
  Rd (w.alloc (.cells cs 204)) (.slice (some ⟨b, 0, none⟩) n n) l := by
 subst hn; subst hb
 exact (Ca w l hd hl cs hcs).rd
theorem J3 {w w' : World} (h : Below w.heap.size w w') (o : Obj) : Below w.heap.size w (w'.alloc o) := h.alloc h.size o
theorem Bh (w : World) (o : Obj) : Below w.heap.size w (w.alloc o) := (Below.refl _ _).alloc (Nat.le_refl _) o
theorem Ar {a b c : World} (h : Below a.heap.size a b) (k : Below b.heap.size b c) : Below a.heap.size a c := h.trans (k.mono h.size)
theorem Ox {a : Nat} (ha : a < 4294967296) : Dig [a] := Jm ha Bv
theorem Qib {a : Nat} (ha : a < 4294967296) (h0 : a ≠ 0) : nf a = [a] := by
 rw [Gr h0, Nat.mod_eq_of_lt ha, Nat.div_eq_of_lt ha, Ef]
section
open Go.RowKit Go.Extern.Stop Go.Stop Go.Extern
end
section
variable {m : Nat}
theorem Oq (z : Int) (hm : m ≠ 0) : (mkRat z m).den = m / Nat.gcd z.natAbs m := by
 rw [Rat.den_mkRat, if_neg hm, Nat.gcd_comm]
theorem M8 (z : Int) (hm : m ≠ 0) : (mkRat z m).num = z / ((Nat.gcd z.natAbs m : Nat) : Int) := by
 rw [Rat.num_mkRat, if_neg hm, Nat.gcd_comm]
theorem I8 (z : Int) (g : Nat) (h : g ∣ z.natAbs) : (z / (g : Int)).natAbs = z.natAbs / g := by
 rcases Nat.eq_zero_or_pos g with h0 | h0
 ·subst h0; simp
 ·obtain ⟨k, hk⟩ := h
  have : z = (g : Int) * k ∨ z = -((g : Int) * k) := by
   rcases Int.natAbs_eq z with e | e
   ·left; rw [e, hk]; simp
   ·right; rw [e, hk]; simp
  have hg : (g : Int) ≠ 0 := (by omega); rw [hk, Nat.mul_div_cancel_left _ h0]
  rcases this with e | e
  ·rw [e, Int.mul_ediv_cancel_left _ hg]; simp
  ·rw [e, show -((g : Int) * k) = (g : Int) * (-(k : Int)) by simp [Int.mul_neg], Int.mul_ediv_cancel_left _ hg]; simp
theorem Qam (z : Int) (hm : m ≠ 0) : (mkRat z m).num.natAbs = z.natAbs / Nat.gcd z.natAbs m := by
 rw [M8 z hm, I8 _ _ (Nat.gcd_dvd_left _ _)]
theorem Y6 (z : Int) (hm : m ≠ 0) : (mkRat z m).num < 0 ↔ z < 0 := by
 rw [M8 z hm]
 have hg : 0 < Nat.gcd z.natAbs m := Nat.gcd_pos_of_pos_right _ (Nat.pos_of_ne_zero hm)
 constructor
 ·intro h
  rcases Int.lt_or_le z 0 with h' | h'
  ·exact h'
  ·have := Int.ediv_nonneg h' (show (0 : Int) ≤ ((Nat.gcd z.natAbs m : Nat) : Int) by omega); omega
 ·intro h; exact Int.ediv_neg_of_neg_of_pos h (by omega)
theorem Wl (z : Int) (hm : m ≠ 0) : mkRat z m = 0 ↔ z = 0 := by
 rw [Rat.mkRat_eq_zero hm]
theorem Qdd (m : Nat) : mkRat 0 m = 0 := by simp
theorem Ie (z : Int) : mkRat z 1 = (z : Rat) := Rat.mkRat_one z
theorem Kh (x y : Rat) : x + y = mkRat (x.num * (y.den : Int) + y.num * (x.den : Int)) (x.den * y.den) := by
 rw [Rat.add_def, Rat.normalize_eq_mkRat]
theorem Lj (x y : Rat) : x * y = mkRat (x.num * y.num) (x.den * y.den) := by
 rw [Rat.mul_def, Rat.normalize_eq_mkRat]
variable {x y : Rat}
theorem Xt (hx : x.den = 1) (hy : y.den = 1) : x + y = ((x.num + y.num : Int) : Rat) := by
 rw [Kh, hx, hy, ← Ie]; simp
theorem Qhu (hx : x.den = 1) (hy : y.den = 1) : x * y = ((x.num * y.num : Int) : Rat) := by
 rw [Lj, hx, hy, ← Ie]
theorem Qb6 (x : Rat) (h : x ≠ 0) : x⁻¹ = mkRat (if x.num < 0 then -(x.den : Int) else (x.den : Int)) x.num.natAbs := by
 have h0 : x.num ≠ 0 := fun e => h (Rat.num_eq_zero.1 e)
 rw [Rat.inv_def]
 split
 ·rename_i hn
  rw [show x.num = -((x.num.natAbs : Nat) : Int) by omega, Rat.divInt_neg']
  rw [Rat.divInt_ofNat]; simp
 ·rw [show x.num = ((x.num.natAbs : Nat) : Int) by omega, Rat.divInt_ofNat]; simp
theorem Xs (x : Rat) : (x⁻¹).num = x.num.sign * x.den := Rat.num_inv x
theorem Vm (h : x.num ≠ 0) : (x⁻¹).den = x.num.natAbs := by rw [Rat.den_inv, if_neg h]
def rsgn (x : Rat) : Int := if x.num < 0 then -1 else if x.num = 0 then 0 else 1
def rcmp (x y : Rat) : Int := rsgn (x - y)
theorem Mr (x : Rat) : 0 < x.den := Nat.pos_of_ne_zero x.den_nz
theorem Qio (h : x.den = y.den) : rcmp x y = if x.num < y.num then -1 else if x.num = y.num then 0 else 1 := by
 unfold rcmp rsgn
 have hd := Mr y
 have e : x - y = mkRat ((x.num - y.num) * (y.den : Int)) (y.den * y.den) := by
  rw [Rat.sub_eq_add_neg, Kh, Rat.neg_num, Rat.neg_den, h]
  congr 1; rw [Int.sub_mul, Int.neg_mul]; omega
 have hdd : y.den * y.den ≠ 0 := Nat.mul_ne_zero (by omega) (by omega)
 rw [e]
 have h1 := Y6 ((x.num - y.num) * (y.den : Int)) hdd
 have h2 := Wl ((x.num - y.num) * (y.den : Int)) hdd
 rw [← Rat.num_eq_zero] at h2
 have h3 : (x.num - y.num) * (y.den : Int) < 0 ↔ x.num < y.num := by
  constructor
  ·intro h'
   rcases Int.lt_or_le x.num y.num with h'' | h''
   ·exact h''
   ·have := Int.mul_nonneg (show 0 ≤ x.num - y.num by omega) (show (0 : Int) ≤ y.den by omega); omega
  ·intro h'; exact Int.mul_neg_of_neg_of_pos (by omega) (by omega)
 have h4 : (x.num - y.num) * (y.den : Int) = 0 ↔ x.num = y.num := by
  rw [Int.mul_eq_zero]; omega
 simp only [h1, h2, h3, h4]
theorem X8 {x : Rat} : rsgn x = 0 ↔ x = 0 := by
 unfold rsgn; rw [← Rat.num_eq_zero]
 split
 ·omega
 ·split <;> omega
theorem Yr {x : Rat} : rsgn x < 0 ↔ x < 0 := by
 unfold rsgn
 rw [show x < 0 ↔ x.num < 0 by rw [← Rat.not_le, ← Rat.num_nonneg]; omega]
 split
 ·omega
 ·split <;> omega
theorem Oz {x : Rat} : 0 < rsgn x ↔ 0 < x := by
 unfold rsgn
 have e : 0 < x ↔ 0 < x.num := by
  have := @Rat.neg_le_neg_iff 0 x
  rw [show (-0 : Rat) = 0 from rfl] at this
  rw [← Rat.not_le, ← this, ← Rat.num_nonneg, Rat.neg_num]; omega
 rw [e]
 split
 ·omega
 ·split <;> omega
theorem Vw (x : Rat) : (rsgn x = -1 ∧ x < 0) ∨ (rsgn x = 0 ∧ x = 0) ∨ (rsgn x = 1 ∧ 0 < x) := by
 have h1 := @Yr x
 have h2 := @X8 x
 have h3 := @Oz x
 have h4 : rsgn x = -1 ∨ rsgn x = 0 ∨ rsgn x = 1 := by unfold rsgn; split; (left; rfl); split; (right; left; rfl); (right; right; rfl)
 rcases h4 with e | e | e
 ·left; exact ⟨e, h1.1 (by omega)⟩
 ·right; left; exact ⟨e, h2.1 e⟩
 ·right; right; exact ⟨e, h3.1 (by omega)⟩
def rgcd (x y : Rat) : Rat := mkRat ((Nat.gcd (x.num.natAbs * y.den) (y.num.natAbs * x.den) : Nat) : Int) (x.den * y.den)
theorem Xk {x y : Rat} (hx : x.den = 1) (hy : y.den = 1) : rgcd x y = ((Nat.gcd x.num.natAbs y.num.natAbs : Nat) : Int) := by
 unfold rgcd; rw [hx, hy, ← Ie]; simp
end
end Go.Proofs.YtpnpnlmlamfpmaaGreatDoor
