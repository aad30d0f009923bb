/-
  Texts of this claim, joined: Rh11, St3, Rh14.
-/
import Derived.Test.YtdlnoeegboapkaaGreatDoorHKM
import Derived.Test.YtdlnoeegboapkaaGreatDoorHKC
import Derived.Test.YtdlnoeegboapkaaGreatDoorHKD
import Derived.Laws.CopyOwn
import Derived.Great.BuildSlice
import Derived.Test.YtdlnoeegboapkaaGreatDoorHKW
import Derived.Test.YtdlnoeegboapkaaGreatDoorHKL
namespace Go.Proofs.YtdlnoeegboapkaaGreatDoor
open Go.RowKit
set_option linter.unusedVariables false
set_option maxHeartbeats 40000000
set_option maxRecDepth 100000
set_option synthInstance.maxHeartbeats 1000000
set_option synthInstance.maxSize 100000
section
theorem refAt_x {a b c t : Rat} : -(c / (b * b + -a * -a)) * a + t * b = atLx a b c t := by
  unfold atLx
  have h : b * b + -a * -a = a * a + b * b := by grind
  rw [h, Rat.div_def, Rat.div_def]; grind
theorem refAt_y {a b c t : Rat} : -(c / (b * b + -a * -a)) * b + t * -a = atLy a b c t := by
  unfold atLy
  have h : b * b + -a * -a = a * a + b * b := by grind
  rw [h, Rat.div_def, Rat.div_def]; grind
theorem refMt_x {f g : FG} : (((f.b : Int) : Rat) * ((g.c : Int) : Rat) - ((g.b : Int) : Rat) * ((f.c : Int) : Rat)) / (((f.a : Int) : Rat) * ((g.b : Int) : Rat) - ((g.a : Int) : Rat) * ((f.b : Int) : Rat)) = mtX f g := by
  unfold mtX dtL
  congr 1 <;> grind
theorem refMt_y {f g : FG} : (((g.a : Int) : Rat) * ((f.c : Int) : Rat) - ((f.a : Int) : Rat) * ((g.c : Int) : Rat)) / (((f.a : Int) : Rat) * ((g.b : Int) : Rat) - ((g.a : Int) : Rat) * ((f.b : Int) : Rat)) = mtY f g := by
  unfold mtY dtL
  congr 1 <;> grind
theorem OntoP.end_on {f g : FG} {lo hi t : Rat} (hf : FGV f) (h : OntoP f g lo hi) : OnF g (atF f t) ↔ lo ≤ t ∧ t ≤ hi := by
  rw [h (atF f t)]
  show onL f.a f.b f.c (atLx f.a f.b f.c t) (atLy f.a f.b f.c t) ∧ lo ≤ parL f.a f.b (atLx f.a f.b f.c t) (atLy f.a f.b f.c t) ∧ parL f.a f.b (atLx f.a f.b f.c t) (atLy f.a f.b f.c t) ≤ hi ↔ _
  rw [at_par t hf.ne]
  exact ⟨fun h => h.2, fun h => ⟨at_on t hf.ne, h⟩⟩
theorem ends_meet {f g : FG} {lo hi x y : Rat} {one : Bool} (hf : FGV f) (hl : lo < hi) (h : OntoP f g lo hi) (hn : ¬ OvP f g) (hm : MtO f g x y one) :
    (OnF g (atF f f.lo) → one = true ∧ (x, y) = atF f f.lo) ∧ (¬ OnF g (atF f f.lo) → OnF g (atF f f.hi) → one = true ∧ (x, y) = atF f f.hi) ∧ (¬ OnF g (atF f f.lo) → ¬ OnF g (atF f f.hi) → one = false) := by
  have hlt := hf.lt
  rw [h.ov hf hl] at hn
  have hyes : ∀ {p}, MtP f g p → one = true ∧ (x, y) = p := fun {p} hp => by
    cases one with
    | true => exact ⟨rfl, (hm.yes rfl).uniq hp⟩
    | false => exact absurd hp ((hm.no rfl).2.2 p)
  rw [h.end_on hf, h.end_on hf]
  refine ⟨fun h1 => ?_, fun h1 h2 => ?_, fun h1 h2 => ?_⟩
  · have e : f.lo = hi := by
      by_cases c : f.lo < hi
      · have : ¬ (lo < f.hi) := fun c2 => hn ⟨c, c2⟩
        grind
      · grind
    exact hyes (h.lo_hi hf hl e)
  · have e : f.hi = lo := by
      by_cases c : lo < f.hi
      · have : ¬ (f.lo < hi) := fun c2 => hn ⟨c2, c⟩
        grind
      · grind
    exact hyes (h.hi_lo hf hl e)
  · cases one with
    | false => rfl
    | true => exact absurd (hm.yes rfl) (h.no hf hl (fun e => h2 (by grind)) (fun e => h1 (by grind)))
theorem meet_iff {f g : FG} {x y : Rat} {one v1 v2 : Bool} (hd : dtL f g ≠ 0) (hm : MtO f g x y one) (h1 : OnF f (mtX f g, mtY f g) ↔ v1 = true) (h2 : OnF g (mtX f g, mtY f g) ↔ v2 = true) :
    one = (v1 && v2) ∧ (one = true → (x, y) = (mtX f g, mtY f g)) := by
  cases one with
  | true =>
    have hp := hm.yes rfl
    have e := mt_eq hd hp
    have hc := hp.1
    rw [e] at hc; rw [h1.1 hc.1, h2.1 hc.2]
    exact ⟨rfl, fun _ => e⟩
  | false =>
    refine ⟨?_, fun e => by cases e⟩
    cases v1 with
    | false => rfl
    | true =>
      cases v2 with
      | false => rfl
      | true => exact absurd (lines_mt (show ((f.a : Rat) * g.b - f.b * g.a) ≠ 0 from hd) ⟨h1.2 rfl, h2.2 rfl⟩) ((hm.no rfl).2.2 _)
theorem par_one {f g : FG} {x y : Rat} {one : Bool} (hf : FGV f) (hg : FGV g) (h1 : ¬ SmL f g) (h2 : ¬ OpL f g) (hd : dtL f g = 0) (hm : MtO f g x y one) : one = false := by
  cases one with
  | false => rfl
  | true => exact absurd (hm.yes rfl) (par_no hf hg h1 h2 hd)
theorem ov_one {f g : FG} {x y : Rat} {one : Bool} (h : OvP f g) (hm : MtO f g x y one) : one = false := by
  cases one with
  | false => rfl
  | true => exact absurd h (hm.yes rfl).not
end
section
theorem st_own {o : Oper} {a : Act} {W w : World} {K : Act → World → Prop} {Q : Exit → Act → World → Prop} (ty : TypeId) (x y : Operand) (ho : o.op = .store ty x y) (hd : o.dst = none)
    {b : Nat} (hx : a.eval x = .pointer (some ⟨b, 0, none⟩)) {l' : List Value} (hy : a.eval y = .agg l'.toArray) {t : TypeId} {l : List Value} [hb : Bx W b t l] (hi : (Tryz.prog.info? ty).map (·.size) = some l'.length)
    (hold : l.length = l'.length) (h1 : ∀ u ∈ l', u.oneCell' = true) [k : Kp w W] (g : w.heap.size ≤ b) (hK : ∀ W' [Kp1 w W'] [Bx W' b t l'], K a W') : o.wp Tryz.prog a W K Q := by
  refine wp_store_row ty x y ho b l'.toArray hx hy t l.toArray hb.out (by rw [hi]; simp) (by simpa using hold) ?_ ?_
  · rw [List.all_toArray]; exact List.all_eq_true.2 h1
  · have i1 : Kp1 w (W.setRow b l'.toArray) := ⟨below_setRow k.out g _⟩
    have i2 : Bx (W.setRow b l'.toArray) b t l' := ⟨setRow_heap W b _ _ t _ hb.out⟩
    rw [hd]; exact @hK _ i1 i2
theorem bs_S {o : Oper} {a : Act} {W : World} {K : Act → World → Prop} {Q : Exit → Act → World → Prop} (x : Operand) (ho : o.op = .buildSlice 263 1 #[(0, x)]) {x0 x1 x2 x3 x4 x5 x6 x7 : Value} (hx : a.eval x = .agg #[x0, x1, x2, x3, x4, x5, x6, x7])
    (hK : K (a.put o.dst (.slice (some ⟨W.heap.size, 0, none⟩) 1 1)) (W.alloc (.cells #[x0, x1, x2, x3, x4, x5, x6, x7] 165))) : o.wp Tryz.prog a W K Q := by
  have hi : (Tryz.prog.info? 165).map (fun i => (i.zero, i.size)) = some (some (.agg #[.bool false, .slice none 0 0, .slice none 0 0, .bool false, .slice none 0 0, .slice none 0 0, .bool false, .bool false]), 8) := by kernel_rfl
  obtain ⟨i0, hi0⟩ : ∃ i0, Tryz.prog.info? 165 = some i0 := by
    cases h : Tryz.prog.info? 165 with
    | none => rw [h] at hi; cases hi
    | some i0 => exact ⟨i0, rfl⟩
  rw [hi0] at hi; simp only [Option.map_some, Option.some.injEq, Prod.mk.injEq] at hi; obtain ⟨hz, hsz⟩ := hi
  refine wp_buildSlice 263 165 1 #[(0, x)] ho _ i0 _ Tryz.underlying263 hi0 hz (by rw [hsz]; decide) (by rw [hsz]; decide) ?_ hK
  rw [hsz]; simp only [List.map_toArray, List.map_cons, List.map_nil, hx]
  first | kernel_rfl | (simp [Instr.fill, Value.cells]; done)
end
section
def OnC (f g : FG) (lo hi : Rat) : Prop := (SmL f g ∧ lo = g.lo ∧ hi = g.hi) ∨ (OpL f g ∧ ¬ SmL f g ∧ lo = -g.hi ∧ hi = -g.lo)
theorem OnC.onto {f g : FG} {lo hi : Rat} (h : OnC f g lo hi) : OntoP f g lo hi := by
  rcases h with ⟨h, rfl, rfl⟩ | ⟨h, _, rfl, rfl⟩
  · exact OntoP.same h
  · exact OntoP.opp h
theorem OnC.lt {f g : FG} {lo hi : Rat} (hg : FGV g) (h : OnC f g lo hi) : lo < hi := by
  have := hg.lt
  rcases h with ⟨h, rfl, rfl⟩ | ⟨h, _, rfl, rfl⟩
  · exact this
  · grind
theorem OnC.ex {f g : FG} (h : SmL f g ∨ OpL f g) : ∃ lo hi, OnC f g lo hi := by
  by_cases h1 : SmL f g
  · exact ⟨_, _, .inl ⟨h1, rfl, rfl⟩⟩
  · exact ⟨_, _, .inr ⟨h.resolve_left h1, h1, rfl, rfl⟩⟩
theorem refOnto {w : World} {gx1 gy1 gz1 : Bool} {ax1 ay1 az1 : Option Addr} {lx1 cx1 ly1 cy1 lz1 cz1 : Nat} {gx2 gy2 gz2 : Bool} {ax2 ay2 az2 : Option Addr} {lx2 cx2 ly2 cy2 lz2 cz2 : Nat} {gu2 gv2 : Bool} {au2 aau2 av2 aav2 : Option Addr} {lu2 cu2 llu2 ccu2 lv2 cv2 llv2 ccv2 : Nat} {f g : FG} {k : Nat} [jx1 : CZ w (.agg #[.bool gx1, .slice ax1 lx1 cx1]) f.a k] [jy1 : CZ w (.agg #[.bool gy1, .slice ay1 ly1 cy1]) f.b k] [jz1 : CZ w (.agg #[.bool gz1, .slice az1 lz1 cz1]) f.c k] [jx2 : CZ w (.agg #[.bool gx2, .slice ax2 lx2 cx2]) g.a k] [jy2 : CZ w (.agg #[.bool gy2, .slice ay2 ly2 cy2]) g.b k] [jz2 : CZ w (.agg #[.bool gz2, .slice az2 lz2 cz2]) g.c k] [ju2 : CQ w (.agg #[.bool gu2, .slice au2 lu2 cu2, .slice aau2 llu2 ccu2]) g.lo k] [jv2 : CQ w (.agg #[.bool gv2, .slice av2 lv2 cv2, .slice aav2 llv2 ccv2]) g.hi k] (b : k ≤ 3000) {lo hi : Rat} (h : OnC f g lo hi) :
    Calls Tryz.prog 174 #[.agg #[.bool gx1, .slice ax1 lx1 cx1, .bool gy1, .slice ay1 ly1 cy1, .bool gz1, .slice az1 lz1 cz1], .agg #[.bool gx2, .slice ax2 lx2 cx2, .bool gy2, .slice ay2 ly2 cy2, .bool gz2, .slice az2 lz2 cz2, .bool gu2, .slice au2 lu2 cu2, .slice aau2 llu2 ccu2, .bool gv2, .slice av2 lv2 cv2, .slice aav2 llv2 ccv2, .bool false, .bool false]] w (SpQRet w lo hi k) := by
  rcases h with ⟨h, rfl, rfl⟩ | ⟨h, h2, rfl, rfl⟩
  · exact refOntoS b h
  · exact refOntoO b h h2
def FkARet (w : World) (v : Bool) (e : Ending) (w' : World) : Prop := ∃ gx ax lx cx gy ay ly cy gz az lz cz gu au lu cu aau llu ccu gv av lv cv aav llv ccv p q, e = .returned (.tuple #[.agg #[.bool gx, .slice ax lx cx, .bool gy, .slice ay ly cy, .bool gz, .slice az lz cz, .bool gu, .slice au lu cu, .slice aau llu ccu, .bool gv, .slice av lv cv, .slice aav llv ccv, .bool p, .bool q], .bool v]) ∧ Below w.heap.size w w'
theorem Calls.cFkA {P : Program} {f : FuncId} {args : Array Value} {w : World} {v : Bool} {K : Ending → World → Prop} (h : Calls P f args w (FkARet w v))
    (hK : ∀ w' [Kp1 w w'] (gx : Bool) (ax : Option Addr) (lx : Nat) (cx : Nat) (gy : Bool) (ay : Option Addr) (ly : Nat) (cy : Nat) (gz : Bool) (az : Option Addr) (lz : Nat) (cz : Nat) (gu : Bool) (au : Option Addr) (lu : Nat) (cu : Nat) (aau : Option Addr) (llu : Nat) (ccu : Nat) (gv : Bool) (av : Option Addr) (lv : Nat) (cv : Nat) (aav : Option Addr) (llv : Nat) (ccv : Nat) (p q : Bool), K (.returned (.tuple #[.agg #[.bool gx, .slice ax lx cx, .bool gy, .slice ay ly cy, .bool gz, .slice az lz cz, .bool gu, .slice au lu cu, .slice aau llu ccu, .bool gv, .slice av lv cv, .slice aav llv ccv, .bool p, .bool q], .bool v])) w') : Calls P f args w K := by
  refine h.mono ?_
  rintro e w' ⟨gx, ax, lx, cx, gy, ay, ly, cy, gz, az, lz, cz, gu, au, lu, cu, aau, llu, ccu, gv, av, lv, cv, aav, llv, ccv, p, q, rfl, hb⟩
  exact @hK w' ⟨hb⟩ gx ax lx cx gy ay ly cy gz az lz cz gu au lu cu aau llu ccu gv av lv cv aav llv ccv p q
theorem load_tpz {W w0 : World} {g : Nat} {V : List TPV} [h : At W g (rowTP V) w0] (hk : 0 < V.length) : (loadVar 165 ⟨g, 0, none⟩).run Tryz.prog W = .ok (.agg #[.bool (tpv V 0).gu, .slice (tpv V 0).au (tpv V 0).lu (tpv V 0).cu, .slice (tpv V 0).aau (tpv V 0).llu (tpv V 0).ccu, .bool (tpv V 0).gv, .slice (tpv V 0).av (tpv V 0).lv (tpv V 0).cv, .slice (tpv V 0).aav (tpv V 0).llv (tpv V 0).ccv, .bool (tpv V 0).p, .bool (tpv V 0).q]) W := by
  have := load_tpv (W := W) (g := g) (V := V) hk
  rw [Nat.zero_mul] at this; exact this
theorem cell_tpz0 {W w0 : World} {g : Nat} {V : List TPV} [h : At W g (rowTP V) w0] (hk : 0 < V.length) : W.cell? ⟨g, 0, none⟩ = some (.bool (tpv V 0).gu) := by
  have := at_tpv h hk (j := 0) (by decide)
  rw [Nat.zero_mul, Nat.zero_add] at this; exact this
theorem cell_tpz1 {W w0 : World} {g : Nat} {V : List TPV} [h : At W g (rowTP V) w0] (hk : 0 < V.length) : W.cell? ⟨g, 1, none⟩ = some (.slice (tpv V 0).au (tpv V 0).lu (tpv V 0).cu) := by
  have := at_tpv h hk (j := 1) (by decide)
  rw [Nat.zero_mul, Nat.zero_add] at this; exact this
theorem cell_tpz2 {W w0 : World} {g : Nat} {V : List TPV} [h : At W g (rowTP V) w0] (hk : 0 < V.length) : W.cell? ⟨g, 2, none⟩ = some (.slice (tpv V 0).aau (tpv V 0).llu (tpv V 0).ccu) := by
  have := at_tpv h hk (j := 2) (by decide)
  rw [Nat.zero_mul, Nat.zero_add] at this; exact this
theorem cell_tpz3 {W w0 : World} {g : Nat} {V : List TPV} [h : At W g (rowTP V) w0] (hk : 0 < V.length) : W.cell? ⟨g, 3, none⟩ = some (.bool (tpv V 0).gv) := by
  have := at_tpv h hk (j := 3) (by decide)
  rw [Nat.zero_mul, Nat.zero_add] at this; exact this
theorem cell_tpz4 {W w0 : World} {g : Nat} {V : List TPV} [h : At W g (rowTP V) w0] (hk : 0 < V.length) : W.cell? ⟨g, 4, none⟩ = some (.slice (tpv V 0).av (tpv V 0).lv (tpv V 0).cv) := by
  have := at_tpv h hk (j := 4) (by decide)
  rw [Nat.zero_mul, Nat.zero_add] at this; exact this
theorem cell_tpz5 {W w0 : World} {g : Nat} {V : List TPV} [h : At W g (rowTP V) w0] (hk : 0 < V.length) : W.cell? ⟨g, 5, none⟩ = some (.slice (tpv V 0).aav (tpv V 0).llv (tpv V 0).ccv) := by
  have := at_tpv h hk (j := 5) (by decide)
  rw [Nat.zero_mul, Nat.zero_add] at this; exact this
theorem cell_tpz6 {W w0 : World} {g : Nat} {V : List TPV} [h : At W g (rowTP V) w0] (hk : 0 < V.length) : W.cell? ⟨g, 6, none⟩ = some (.bool (tpv V 0).p) := by
  have := at_tpv h hk (j := 6) (by decide)
  rw [Nat.zero_mul, Nat.zero_add] at this; exact this
theorem cell_tpz7 {W w0 : World} {g : Nat} {V : List TPV} [h : At W g (rowTP V) w0] (hk : 0 < V.length) : W.cell? ⟨g, 7, none⟩ = some (.bool (tpv V 0).q) := by
  have := at_tpv h hk (j := 7) (by decide)
  rw [Nat.zero_mul, Nat.zero_add] at this; exact this
theorem At.exn {W W2 w0 : World} {g : Nat} {xs : List Value} {L : List Nat} (k : Ex W L W2) (h : At W g xs w0) (n : g ∉ L) : At W2 g xs w0 := h.keep k.size (k.block _ h.ltW n)
theorem At.neF {W w0 : World} {g b : Nat} {V : List TPV} {t : TypeId} {x0 x1 : Value} {y : Bool} {l : List Value} (h : At W g (rowTP V) w0) (hV : 0 < V.length) (hb : Bx W b t (x0 :: x1 :: .bool y :: l)) : g ≠ b := by
  rintro rfl
  have h1 := cell_tpz2 (W := W) (g := g) (V := V) hV
  have h2 : W.cell? ⟨g, 2, none⟩ = some (.bool y) := by rw [cell_bx (h := hb)]; rfl
  rw [h1] at h2
  cases h2
section
attribute [local go_sem] load_tpz cell_tpz0 cell_tpz1 cell_tpz2 cell_tpz3 cell_tpz4 cell_tpz5 cell_tpz6 cell_tpz7
theorem refOverlapV {w : World} {gx1 gy1 gz1 : Bool} {ax1 ay1 az1 : Option Addr} {lx1 cx1 ly1 cy1 lz1 cz1 : Nat} {gu1 gv1 : Bool} {au1 aau1 av1 aav1 : Option Addr} {lu1 cu1 llu1 ccu1 lv1 cv1 llv1 ccv1 : Nat} {gx2 gy2 gz2 : Bool} {ax2 ay2 az2 : Option Addr} {lx2 cx2 ly2 cy2 lz2 cz2 : Nat} {gu2 gv2 : Bool} {au2 aau2 av2 aav2 : Option Addr} {lu2 cu2 llu2 ccu2 lv2 cv2 llv2 ccv2 : Nat} {f g : FG} {k : Nat} [jx1 : CZ w (.agg #[.bool gx1, .slice ax1 lx1 cx1]) f.a k] [jy1 : CZ w (.agg #[.bool gy1, .slice ay1 ly1 cy1]) f.b k] [jz1 : CZ w (.agg #[.bool gz1, .slice az1 lz1 cz1]) f.c k] [ju1 : CQ w (.agg #[.bool gu1, .slice au1 lu1 cu1, .slice aau1 llu1 ccu1]) f.lo k] [jv1 : CQ w (.agg #[.bool gv1, .slice av1 lv1 cv1, .slice aav1 llv1 ccv1]) f.hi k] [jx2 : CZ w (.agg #[.bool gx2, .slice ax2 lx2 cx2]) g.a k] [jy2 : CZ w (.agg #[.bool gy2, .slice ay2 ly2 cy2]) g.b k] [jz2 : CZ w (.agg #[.bool gz2, .slice az2 lz2 cz2]) g.c k] [ju2 : CQ w (.agg #[.bool gu2, .slice au2 lu2 cu2, .slice aau2 llu2 ccu2]) g.lo k] [jv2 : CQ w (.agg #[.bool gv2, .slice av2 lv2 cv2, .slice aav2 llv2 ccv2]) g.hi k] {v : Bool} (b : k ≤ 300) (hf : FGV f) (hg : FGV g) (hv : Hid (OvP f g ↔ v = true)) :
    Calls Tryz.prog 111 #[.agg #[.bool gx1, .slice ax1 lx1 cx1, .bool gy1, .slice ay1 ly1 cy1, .bool gz1, .slice az1 lz1 cz1, .bool gu1, .slice au1 lu1 cu1, .slice aau1 llu1 ccu1, .bool gv1, .slice av1 lv1 cv1, .slice aav1 llv1 ccv1, .bool false, .bool false], .agg #[.bool gx2, .slice ax2 lx2 cx2, .bool gy2, .slice ay2 ly2 cy2, .bool gz2, .slice az2 lz2 cz2, .bool gu2, .slice au2 lu2 cu2, .slice aau2 llu2 ccu2, .bool gv2, .slice av2 lv2 cv2, .slice aav2 llv2 ccv2, .bool false, .bool false]] w (FkARet w v) := by
  by_cases hc : SmL f g ∨ OpL f g
  · obtain ⟨lo, hi, hon⟩ := OnC.ex hc; have HON := Lib.hid hon
    have hlt := hon.lt hg
    have hlf := hf.lt
    have HN : Hid (0 < mksN f.lo f.hi lo hi ↔ v = true) := Lib.hid (by rw [mksN_pos, ← ov_mm hf hlt hon.onto]; exact hv.out)
    have HC : Hid ((SmL f g ∨ OpL f g) ↔ true = true) := Lib.hid ⟨fun _ => rfl, fun _ => hc⟩
    clear hc hon hv hf hg; go_enter Tryz.func111, Tryz.ntmps111
    go_upto_region 3 with (go_at_call 172; (with_reducible refine Calls.cE (refCollinear (f := f) (g := g) (k := k) (by omega) HC) ?_); intro w3 _)
    go_cut [6] from 14 to 22 (fun s wx => ∃ (a : Option Addr) (c : Nat) (R : List TPV), s = .slice a R.length c ∧ Sl wx (.slice a R.length c) R.length (rowTP R) wx ∧ Hid (R.length = mksN f.lo f.hi lo hi) ∧ Kp w3 wx)
    case first => as_aux_lemma =>
      clear HN HC; refine rgn [] [] fun hH => ?_; refine tk 0 hH ?_; refine tk 1 hH ?_; refine tk 3 hH ?_; refine tk 4 hH ?_; refine tk 5 hH ?_; refine wpAnyT_ready (rs := [2, 6]) (by kernel_rfl) (by simp) ?_; refine AllT.cons (by simp; rfl) (fun K hK => ?_) (AllT.cons (by simp; rfl) (fun K hK => ?_) AllT.nil)
      · try rw [if_pos (by rfl)]
        refine bs_S (.tmp 15) rfl rfl ?_
        refine hd hK ?_; clear hH hK K; intro hH; refine st 6 fun K hK => ?_; go_simp; (with_reducible refine Calls.cSpQ (refOnto (f := f) (g := g) (k := k) (by omega) HON.out) ?_); intros; refine hd hK ?_; clear hH hK K; intro hH; refine st 7 fun K hK => ?_
        try rw [if_pos (by rfl)]
        refine bs_S (.tmp 20) rfl rfl ?_
        refine hd hK ?_; clear hH hK K; intro hH; refine st 8 fun K hK => ?_; go_simp; (with_reducible refine Calls.cSpL (refCombine (lo1 := f.lo) (hi1 := f.hi) (lo2 := lo) (hi2 := hi) (k := k) (by omega) hlf hlt) ?_); intro w5 _ ra rc R _ hR; refine hd hK ?_; clear hH hK K; intro hH; refine tk 9 hH ?_; refine dn ?_; clear hH; go_wp2_with fail; go_meet; exact ⟨_, _, R, rfl, Sl.here inferInstance, hR, inferInstance⟩
      · go_simp; (with_reducible refine Calls.cSpQ (refOnto (f := f) (g := g) (k := k) (by omega) HON.out) ?_); intros; refine hd hK ?_; clear hH hK K; intro hH; refine wpAnyT_ready (rs := [2, 7]) (by kernel_rfl) (by simp) ?_; refine AllT.cons (by simp; rfl) (fun K hK => ?_) (AllT.cons (by simp; rfl) (fun K hK => ?_) AllT.nil)
        · try rw [if_pos (by rfl)]
          refine bs_S (.tmp 15) rfl rfl ?_
          refine hd hK ?_; clear hH hK K; intro hH; refine st 7 fun K hK => ?_
          try rw [if_pos (by rfl)]
          refine bs_S (.tmp 20) rfl rfl ?_
          refine hd hK ?_; clear hH hK K; intro hH; refine st 8 fun K hK => ?_; go_simp; (with_reducible refine Calls.cSpL (refCombine (lo1 := f.lo) (hi1 := f.hi) (lo2 := lo) (hi2 := hi) (k := k) (by omega) hlf hlt) ?_); intro w5 _ ra rc R _ hR; refine hd hK ?_; clear hH hK K; intro hH; refine tk 9 hH ?_; refine dn ?_; clear hH; go_wp2_with fail; go_meet; exact ⟨_, _, R, rfl, Sl.here inferInstance, hR, inferInstance⟩
        · try rw [if_pos (by rfl)]
          refine bs_S (.tmp 20) rfl rfl ?_
          refine hd hK ?_; clear hH hK K; intro hH; refine st 2 fun K hK => ?_
          try rw [if_pos (by rfl)]
          refine bs_S (.tmp 15) rfl rfl ?_
          refine hd hK ?_; clear hH hK K; intro hH; refine st 8 fun K hK => ?_; go_simp; (with_reducible refine Calls.cSpL (refCombine (lo1 := f.lo) (hi1 := f.hi) (lo2 := lo) (hi2 := hi) (k := k) (by omega) hlf hlt) ?_); intro w5 _ ra rc R _ hR; refine hd hK ?_; clear hH hK K; intro hH; refine tk 9 hH ?_; refine dn ?_; clear hH; go_wp2_with fail; go_meet; exact ⟨_, _, R, rfl, Sl.here inferInstance, hR, inferInstance⟩
    case rest =>
      clear HC; obtain ⟨ra, rc, R, rfl, j1, hR, j2⟩ := hcut; have kc := Kp1.mk j2.out
      cases v with
      | true =>
        have h0 : 0 < R.length := by rw [hR.out]; exact HN.out.2 rfl
        have h0' : ¬ (R.length = 0) := (by omega); have h0i : ¬ ((R.length : Int) = 0) := (by omega); have h0j : 0 < (R.length : Int) := (by omega); have l0 : LtN 0 R.length := ⟨h0⟩; obtain ⟨g6, rfl, hA⟩ := j1.form h0
        have hne : g6 ≠ w.heap.size + 1 + 1 := hA.neF h0 (inferInstance : Bx wc (w.heap.size + 1 + 1) 167 _)
        have hex : ∀ wx, Ex wc [w.heap.size + 1 + 1] wx → At wx g6 (rowTP R) wc := fun wx h => At.exn h hA (by simpa using hne)
        clear HN hR; go_wp2_with fail; refine rgn [w.heap.size + 1 + 1] [] fun hH => ?_; refine tk 0 hH ?_; refine tk 1 hH ?_; refine tk 2 hH ?_; refine tk 3 hH ?_; refine tk 4 hH ?_ (hy := by (intro wx9 hSw; have hSx := Ex1.mk hSw; have hA9 := hex wx9 hSw; go_simp; try with_reducible rfl)); refine tk 5 hH ?_; refine st 6 fun K hK => ?_; go_simp; refine hd hK ?_; clear hH hK K; intro hH; refine tk 7 hH ?_; refine dn ?_; clear hH; go_wp2_with fail
        refine ret_b9 rfl Tryz.underlying167 rfl (by kernel_rfl) rfl rfl rfl ?_
        exact ⟨_, _, _, _, _, _, _, _, _, _, _, _, _, _, _, _, _, _, _, _, _, _, _, _, _, _, _, _, rfl, (inferInstance : Kp w _).out⟩
      | false =>
        have h0 : R.length = 0 := by
          rcases Nat.eq_zero_or_pos R.length with e | e
          · exact e
          · rw [hR.out] at e; exact absurd (HN.out.1 e) (by decide)
        obtain rfl : R = [] := List.eq_nil_of_length_eq_zero h0; clear h0 HN hR; go_wp2_with fail
        refine ret_b9 rfl Tryz.underlying167 rfl (by kernel_rfl) rfl rfl rfl ?_
        exact ⟨_, _, _, _, _, _, _, _, _, _, _, _, _, _, _, _, _, _, _, _, _, _, _, _, _, _, _, _, rfl, (inferInstance : Kp w _).out⟩
  · have HC : Hid ((SmL f g ∨ OpL f g) ↔ false = true) := Lib.hid ⟨fun h => absurd h hc, fun e => by cases e⟩
    obtain rfl : v = false := by
      cases v with
      | false => rfl
      | true => exact absurd (hv.out.2 rfl) (no_ov hf hg (fun h => hc (.inl h)) (fun h => hc (.inr h)))
    clear hc hv hf hg; go_enter Tryz.func111, Tryz.ntmps111
    go_wp2_with (go_at_call 172; (with_reducible refine Calls.cE (refCollinear (f := f) (g := g) (k := k) (by omega) HC) ?_); intros)
    refine ret_b9 rfl Tryz.underlying167 rfl (by kernel_rfl) rfl rfl rfl ?_
    exact ⟨_, _, _, _, _, _, _, _, _, _, _, _, _, _, _, _, _, _, _, _, _, _, _, _, _, _, _, _, rfl, (inferInstance : Kp w _).out⟩
end
end
end Go.Proofs.YtdlnoeegboapkaaGreatDoor
