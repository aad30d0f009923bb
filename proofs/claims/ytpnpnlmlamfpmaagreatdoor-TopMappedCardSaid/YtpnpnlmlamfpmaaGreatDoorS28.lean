import Derived.Test.YtpnpnlmlamfpmaaGreatDoorS27
namespace Go.Proofs.YtpnpnlmlamfpmaaGreatDoor
set_option linter.unusedSimpArgs false
set_option linter.unusedVariables false
set_option maxHeartbeats 4000000
set_option maxRecDepth 100000
set_option synthInstance.maxHeartbeats 1000000
set_option synthInstance.maxSize 100000
section
open Go.RowKit Cel
variable {W w w0 : World} {m : LQ} {v : LV}
theorem Cc {u : LV} {i : IV} {l : LQ} {q : IQ} {o : Bool} [h1 : Lk w v l] [h2 : Ik w i q] [h3 : Lk w u m] (ho : Hid ((l.cut q m).2 = o)) : Calls Tryz.prog 179 #[.agg #[.int .i64 v.x.n, .int .i64 v.x.d, .pointer v.x.p, .int .i64 v.y.n, .int .i64 v.y.d, .pointer v.y.p, .int .i64 v.z.n, .int .i64 v.z.d, .pointer v.z.p], .agg #[.int .i64 i.u.n, .int .i64 i.u.d, .pointer i.u.p, .int .i64 i.v.n, .int .i64 i.v.d, .pointer i.v.p, .bool i.nl, .bool i.nh], .agg #[.int .i64 u.x.n, .int .i64 u.x.d, .pointer u.x.p, .int .i64 u.y.n, .int .i64 u.y.d, .pointer u.y.p, .int .i64 u.z.n, .int .i64 u.z.d, .pointer u.z.p]] w (G7 w (l.cut q m).1 o) := by rw [← ho.out]; exact Qma
def Im (f : FQ) (m : LQ) : List FQ := if (f.l.cut f.v m).2 then [⟨f.l, (f.l.cut f.v m).1⟩] else []
def Qk (w : World) (C D : List FQ) (e : Ending) (w' : World) : Prop := ∃ (a : Option Addr) (c : Nat) (V : List GW) (a' : Option Addr) (c' : Nat) (U : List GW), e = .returned (.tuple #[.slice a V.length c, .slice a' U.length c']) ∧ Sl w' (.slice a V.length c) V.length (rowW V) w' ∧ Cw w' V C ∧ Sl w' (.slice a' U.length c') U.length (rowW U) w' ∧ Cw w' U D ∧ (∀ g, (Value.slice a' U.length c').ownBlock = some g → w.heap.size ≤ g) ∧ Below w.heap.size w w'
variable {C D : List FQ}
theorem Qak {P : Program} {f : FuncId} {args : Array Value} {K : Ending → World → Prop} (h : Calls P f args w (Qk w C D))
  (hK : ∀ w' [Kp1 w w'] (a : Option Addr) (c : Nat) (V : List GW) (a' : Option Addr) (c' : Nat) (U : List GW) [Sl w' (.slice a V.length c) V.length (rowW V) w'] [Cw w' V C] [Sl w' (.slice a' U.length c') U.length (rowW U) w'] [Cw w' U D], (∀ g, (Value.slice a' U.length c').ownBlock = some g → w.heap.size ≤ g) → K (.returned (.tuple #[.slice a V.length c, .slice a' U.length c'])) w') : Calls P f args w K := by
 refine h.mono ?_
 rintro e w' ⟨a, c, V, a', c', U, rfl, h1, h2, h3, h4, h5, hb⟩
 exact @hK w' ⟨hb⟩ a c V a' c' U h1 h2 h3 h4 h5
variable {V : List GW} {a : Option Addr} {b c n q : Nat}
theorem Qk.fin {w' w1 : World} {a' : Option Addr} {n' c' : Nat} {U : List GW} [b : Kp w w'] (h1 : Sl w' (.slice a n c) V.length (rowW V) w0) (h2 : Cw w' V C) (h3 : Sl w' (.slice a' n' c') U.length (rowW U) w1) (h4 : Cw w' U D) (h5 : ∀ g, (Value.slice a' n' c').ownBlock = some g → w.heap.size ≤ g) : Qk w C D (.returned (.tuple #[.slice a n c, .slice a' n' c'])) w' := by
 obtain rfl := h1.len; obtain rfl := h3.len; exact ⟨a, c, V, a', c', U, rfl, h1.here, h2, h3.here, h4, h5, b.out⟩
theorem Cl : Sl W (.slice none 0 0) ([] : List GW).length (rowW []) W := ⟨.inl ⟨rfl, rfl⟩, fun _ h => (by cases h), fun _ h => (by cases h)⟩
theorem Qlu {t : TypeId} {xs : List Value} (h : Bx W b t xs) (hc : n ≤ c) : Sl W (.slice (some ⟨b, 0, none⟩) n c) n xs W := ⟨.inr ⟨b, c, rfl, hc, fun j u hu => by rw [B8]; exact hu⟩, fun g e => (by cases e; exact h.lt), fun g e => (by cases e; exact h.lt)⟩
variable {e : GW}
theorem Ek [h : Bx W b 165 [.int .i64 e.l.x.n, .int .i64 e.l.x.d, .pointer e.l.x.p, .int .i64 e.l.y.n, .int .i64 e.l.y.d, .pointer e.l.y.p, .int .i64 e.l.z.n, .int .i64 e.l.z.d, .pointer e.l.z.p, .int .i64 e.i.u.n, .int .i64 e.i.u.d, .pointer e.i.u.p, .int .i64 e.i.v.n, .int .i64 e.i.v.d, .pointer e.i.v.p, .bool e.i.nl, .bool e.i.nh]] : Sl W (.slice (some ⟨b, 0, none⟩) 1 1) [e].length (rowW [e]) W := Qlu h (Nat.le_refl _)
theorem Qdw {f : FQ} [h1 : Fk w e f] [h2 : Lk w v m] : Calls Tryz.prog 125 #[.agg #[.int .i64 e.l.x.n, .int .i64 e.l.x.d, .pointer e.l.x.p, .int .i64 e.l.y.n, .int .i64 e.l.y.d, .pointer e.l.y.p, .int .i64 e.l.z.n, .int .i64 e.l.z.d, .pointer e.l.z.p, .int .i64 e.i.u.n, .int .i64 e.i.u.d, .pointer e.i.u.p, .int .i64 e.i.v.n, .int .i64 e.i.v.d, .pointer e.i.v.p, .bool e.i.nl, .bool e.i.nh], .agg #[.int .i64 v.x.n, .int .i64 v.x.d, .pointer v.x.p, .int .i64 v.y.n, .int .i64 v.y.d, .pointer v.y.p, .int .i64 v.z.n, .int .i64 v.z.d, .pointer v.z.p]] w (Qk w (Im f m) (Im f (rev m))) := by
 obtain ⟨o, ho⟩ : ∃ o, (f.l.cut f.v m).2 = o := ⟨_, rfl⟩; obtain ⟨o', ho'⟩ : ∃ o, (f.l.cut f.v (rev m)).2 = o := ⟨_, rfl⟩; have HV := Lib.hid ho; have HW := Lib.hid ho'; unfold Im; rw [ho, ho']; clear ho ho'; go_enter Tryz.func125, Tryz.ntmps125
 cases o
 ·cases o'
  ·go_wp2_with (first
    | (go_at_call 179; refine Bm (Cc HV) ?_; intro w1 _ j1 _))
   refine rgn [] [] fun hH => ?_; refine tk 0 hH ?_; refine tk 1 hH ?_; refine tk 2 hH ?_; refine tk 3 hH ?_; refine tk 4 hH ?_; refine Az (rs := [5, 10]) (by kernel_rfl) (by simp) ?_; refine Lm.cons (by simp; rfl) (fun K hK => ?_) (Lm.cons (by simp; rfl) (fun K hK => ?_) Lm.nil)
   ·go_simp; refine Fg (F6) ?_; intros; refine hd hK fun hH => ?_; refine Az (rs := [6, 10]) (by kernel_rfl) (by simp) ?_; refine Lm.cons (by simp; rfl) (fun K hK => ?_) (Lm.cons (by simp; rfl) (fun K hK => ?_) Lm.nil)
    ·go_simp; refine Bm (Cc HW) ?_; intro w3 _ j2 _; refine hd hK fun hH => ?_; refine tk 7 hH ?_; refine tk 8 hH ?_; refine tk 9 hH (st 10 fun K hK => ?_); go_simp; refine hd hK fun hH => st 11 fun K hK => ?_
     try rw [if_pos (by rfl)]
     refine Bs 163 (.tmp 8) (.tmp 33) rfl rfl rfl (l' := [.int .i64 j2.u.n, .int .i64 j2.u.d, .pointer j2.u.p, .int .i64 j2.v.n, .int .i64 j2.v.d, .pointer j2.v.p, .bool j2.nl, .bool j2.nh]) rfl (by kernel_rfl) (by rfl) (IV.one1 _) (w := w) ?_
     intro w4 _ _ _ _ _; refine hd hK fun hH => ?_; refine tk 12 hH (dn ?_); clear hH; go_wp2_with fail; go_ret2; exact Qk.fin (V := []) (U := []) Cl Cw.nil Cl Cw.nil (fun g h => (by cases h))
    ·go_simp; refine hd hK fun hH => st 6 fun K hK => ?_; go_simp; refine Bm (Cc HW) ?_; intro w3 _ j2 _; refine hd hK fun hH => ?_; refine tk 7 hH ?_; refine tk 8 hH ?_; refine tk 9 hH (st 11 fun K hK => ?_)
     try rw [if_pos (by rfl)]
     refine Bs 163 (.tmp 8) (.tmp 33) rfl rfl rfl (l' := [.int .i64 j2.u.n, .int .i64 j2.u.d, .pointer j2.u.p, .int .i64 j2.v.n, .int .i64 j2.v.d, .pointer j2.v.p, .bool j2.nl, .bool j2.nh]) rfl (by kernel_rfl) (by rfl) (IV.one1 _) (w := w) ?_
     intro w4 _ _ _ _ _; refine hd hK fun hH => ?_; refine tk 12 hH (dn ?_); clear hH; go_wp2_with fail; go_ret2; exact Qk.fin (V := []) (U := []) Cl Cw.nil Cl Cw.nil (fun g h => (by cases h))
   ·go_simp; refine hd hK fun hH => st 5 fun K hK => ?_; go_simp; refine Fg (F6) ?_; intros; refine hd hK fun hH => st 6 fun K hK => ?_; go_simp; refine Bm (Cc HW) ?_; intro w3 _ j2 _; refine hd hK fun hH => ?_; refine tk 7 hH ?_; refine tk 8 hH ?_; refine tk 9 hH (st 11 fun K hK => ?_)
    try rw [if_pos (by rfl)]
    refine Bs 163 (.tmp 8) (.tmp 33) rfl rfl rfl (l' := [.int .i64 j2.u.n, .int .i64 j2.u.d, .pointer j2.u.p, .int .i64 j2.v.n, .int .i64 j2.v.d, .pointer j2.v.p, .bool j2.nl, .bool j2.nh]) rfl (by kernel_rfl) (by rfl) (IV.one1 _) (w := w) ?_
    intro w4 _ _ _ _ _; refine hd hK fun hH => ?_; refine tk 12 hH (dn ?_); clear hH; go_wp2_with fail; go_ret2; exact Qk.fin (V := []) (U := []) Cl Cw.nil Cl Cw.nil (fun g h => (by cases h))
  ·go_wp2_with (first
    | (go_at_call 179; refine Bm (Cc HV) ?_; intro w1 _ j1 _))
   refine rgn [] [] fun hH => ?_; refine tk 0 hH ?_; refine tk 1 hH ?_; refine tk 2 hH ?_; refine tk 3 hH ?_; refine tk 4 hH ?_; refine Az (rs := [5, 10]) (by kernel_rfl) (by simp) ?_; refine Lm.cons (by simp; rfl) (fun K hK => ?_) (Lm.cons (by simp; rfl) (fun K hK => ?_) Lm.nil)
   ·go_simp; refine Fg (F6) ?_; intros; refine hd hK fun hH => ?_; refine Az (rs := [6, 10]) (by kernel_rfl) (by simp) ?_; refine Lm.cons (by simp; rfl) (fun K hK => ?_) (Lm.cons (by simp; rfl) (fun K hK => ?_) Lm.nil)
    ·go_simp; refine Bm (Cc HW) ?_; intro w3 _ j2 _; refine hd hK fun hH => ?_; refine tk 7 hH ?_; refine tk 8 hH ?_; refine tk 9 hH (st 10 fun K hK => ?_); go_simp; refine hd hK fun hH => st 11 fun K hK => ?_
     try rw [if_pos (by rfl)]
     refine Bs 163 (.tmp 8) (.tmp 33) rfl rfl rfl (l' := [.int .i64 j2.u.n, .int .i64 j2.u.d, .pointer j2.u.p, .int .i64 j2.v.n, .int .i64 j2.v.d, .pointer j2.v.p, .bool j2.nl, .bool j2.nh]) rfl (by kernel_rfl) (by rfl) (IV.one1 _) (w := w) ?_
     intro w4 _ _ _ _ _; refine hd hK fun hH => ?_; refine tk 12 hH (dn ?_); clear hH
     go_wp2_with (first
          | refine E6 rfl 108 Tryz.underlying108 (.tmp 39) rfl ⟨e.l, j2⟩ rfl ?_)
     go_ret2
     exact Qk.fin (V := []) (U := [⟨e.l, j2⟩]) Cl Cw.nil Ek (Cw.one ii) (fun g h => (by cases h; exact (ii : Ge w _).out))
    ·go_simp; refine hd hK fun hH => st 6 fun K hK => ?_; go_simp; refine Bm (Cc HW) ?_; intro w3 _ j2 _; refine hd hK fun hH => ?_; refine tk 7 hH ?_; refine tk 8 hH ?_; refine tk 9 hH (st 11 fun K hK => ?_)
     try rw [if_pos (by rfl)]
     refine Bs 163 (.tmp 8) (.tmp 33) rfl rfl rfl (l' := [.int .i64 j2.u.n, .int .i64 j2.u.d, .pointer j2.u.p, .int .i64 j2.v.n, .int .i64 j2.v.d, .pointer j2.v.p, .bool j2.nl, .bool j2.nh]) rfl (by kernel_rfl) (by rfl) (IV.one1 _) (w := w) ?_
     intro w4 _ _ _ _ _; refine hd hK fun hH => ?_; refine tk 12 hH (dn ?_); clear hH
     go_wp2_with (first
          | refine E6 rfl 108 Tryz.underlying108 (.tmp 39) rfl ⟨e.l, j2⟩ rfl ?_)
     go_ret2
     exact Qk.fin (V := []) (U := [⟨e.l, j2⟩]) Cl Cw.nil Ek (Cw.one ii) (fun g h => (by cases h; exact (ii : Ge w _).out))
   ·go_simp; refine hd hK fun hH => st 5 fun K hK => ?_; go_simp; refine Fg (F6) ?_; intros; refine hd hK fun hH => st 6 fun K hK => ?_; go_simp; refine Bm (Cc HW) ?_; intro w3 _ j2 _; refine hd hK fun hH => ?_; refine tk 7 hH ?_; refine tk 8 hH ?_; refine tk 9 hH (st 11 fun K hK => ?_)
    try rw [if_pos (by rfl)]
    refine Bs 163 (.tmp 8) (.tmp 33) rfl rfl rfl (l' := [.int .i64 j2.u.n, .int .i64 j2.u.d, .pointer j2.u.p, .int .i64 j2.v.n, .int .i64 j2.v.d, .pointer j2.v.p, .bool j2.nl, .bool j2.nh]) rfl (by kernel_rfl) (by rfl) (IV.one1 _) (w := w) ?_
    intro w4 _ _ _ _ _; refine hd hK fun hH => ?_; refine tk 12 hH (dn ?_); clear hH
    go_wp2_with (first
         | refine E6 rfl 108 Tryz.underlying108 (.tmp 39) rfl ⟨e.l, j2⟩ rfl ?_)
    go_ret2
    exact Qk.fin (V := []) (U := [⟨e.l, j2⟩]) Cl Cw.nil Ek (Cw.one ii) (fun g h => (by cases h; exact (ii : Ge w _).out))
 ·cases o'
  ·go_wp2_with (first
    | (go_at_call 179; refine Bm (Cc HV) ?_; intro w1 _ j1 _)
    | refine E6 rfl 108 Tryz.underlying108 (.tmp 23) rfl ⟨e.l, j1⟩ rfl ?_)
   refine rgn [] [] fun hH => ?_; refine tk 0 hH ?_; refine tk 1 hH ?_; refine tk 2 hH ?_; refine tk 3 hH ?_; refine tk 4 hH ?_; refine Az (rs := [5, 10]) (by kernel_rfl) (by simp) ?_; refine Lm.cons (by simp; rfl) (fun K hK => ?_) (Lm.cons (by simp; rfl) (fun K hK => ?_) Lm.nil)
   ·go_simp; refine Fg (F6) ?_; intros; refine hd hK fun hH => ?_; refine Az (rs := [6, 10]) (by kernel_rfl) (by simp) ?_; refine Lm.cons (by simp; rfl) (fun K hK => ?_) (Lm.cons (by simp; rfl) (fun K hK => ?_) Lm.nil)
    ·go_simp; refine Bm (Cc HW) ?_; intro w3 _ j2 _; refine hd hK fun hH => ?_; refine tk 7 hH ?_; refine tk 8 hH ?_; refine tk 9 hH (st 10 fun K hK => ?_); go_simp; refine hd hK fun hH => st 11 fun K hK => ?_
     try rw [if_pos (by rfl)]
     refine Bs 163 (.tmp 8) (.tmp 33) rfl rfl rfl (l' := [.int .i64 j2.u.n, .int .i64 j2.u.d, .pointer j2.u.p, .int .i64 j2.v.n, .int .i64 j2.v.d, .pointer j2.v.p, .bool j2.nl, .bool j2.nh]) rfl (by kernel_rfl) (by rfl) (IV.one1 _) (w := w) ?_
     intro w4 _ _ _ _ _; refine hd hK fun hH => ?_; refine tk 12 hH (dn ?_); clear hH; go_wp2_with fail; go_ret2; exact Qk.fin (V := [⟨e.l, j1⟩]) (U := []) Ek (Cw.one ii) Cl Cw.nil (fun g h => (by cases h))
    ·go_simp; refine hd hK fun hH => st 6 fun K hK => ?_; go_simp; refine Bm (Cc HW) ?_; intro w3 _ j2 _; refine hd hK fun hH => ?_; refine tk 7 hH ?_; refine tk 8 hH ?_; refine tk 9 hH (st 11 fun K hK => ?_)
     try rw [if_pos (by rfl)]
     refine Bs 163 (.tmp 8) (.tmp 33) rfl rfl rfl (l' := [.int .i64 j2.u.n, .int .i64 j2.u.d, .pointer j2.u.p, .int .i64 j2.v.n, .int .i64 j2.v.d, .pointer j2.v.p, .bool j2.nl, .bool j2.nh]) rfl (by kernel_rfl) (by rfl) (IV.one1 _) (w := w) ?_
     intro w4 _ _ _ _ _; refine hd hK fun hH => ?_; refine tk 12 hH (dn ?_); clear hH; go_wp2_with fail; go_ret2; exact Qk.fin (V := [⟨e.l, j1⟩]) (U := []) Ek (Cw.one ii) Cl Cw.nil (fun g h => (by cases h))
   ·go_simp; refine hd hK fun hH => st 5 fun K hK => ?_; go_simp; refine Fg (F6) ?_; intros; refine hd hK fun hH => st 6 fun K hK => ?_; go_simp; refine Bm (Cc HW) ?_; intro w3 _ j2 _; refine hd hK fun hH => ?_; refine tk 7 hH ?_; refine tk 8 hH ?_; refine tk 9 hH (st 11 fun K hK => ?_)
    try rw [if_pos (by rfl)]
    refine Bs 163 (.tmp 8) (.tmp 33) rfl rfl rfl (l' := [.int .i64 j2.u.n, .int .i64 j2.u.d, .pointer j2.u.p, .int .i64 j2.v.n, .int .i64 j2.v.d, .pointer j2.v.p, .bool j2.nl, .bool j2.nh]) rfl (by kernel_rfl) (by rfl) (IV.one1 _) (w := w) ?_
    intro w4 _ _ _ _ _; refine hd hK fun hH => ?_; refine tk 12 hH (dn ?_); clear hH; go_wp2_with fail; go_ret2; exact Qk.fin (V := [⟨e.l, j1⟩]) (U := []) Ek (Cw.one ii) Cl Cw.nil (fun g h => (by cases h))
  ·go_wp2_with (first
    | (go_at_call 179; refine Bm (Cc HV) ?_; intro w1 _ j1 _)
    | refine E6 rfl 108 Tryz.underlying108 (.tmp 23) rfl ⟨e.l, j1⟩ rfl ?_)
   refine rgn [] [] fun hH => ?_; refine tk 0 hH ?_; refine tk 1 hH ?_; refine tk 2 hH ?_; refine tk 3 hH ?_; refine tk 4 hH ?_; refine Az (rs := [5, 10]) (by kernel_rfl) (by simp) ?_; refine Lm.cons (by simp; rfl) (fun K hK => ?_) (Lm.cons (by simp; rfl) (fun K hK => ?_) Lm.nil)
   ·go_simp; refine Fg (F6) ?_; intros; refine hd hK fun hH => ?_; refine Az (rs := [6, 10]) (by kernel_rfl) (by simp) ?_; refine Lm.cons (by simp; rfl) (fun K hK => ?_) (Lm.cons (by simp; rfl) (fun K hK => ?_) Lm.nil)
    ·go_simp; refine Bm (Cc HW) ?_; intro w3 _ j2 _; refine hd hK fun hH => ?_; refine tk 7 hH ?_; refine tk 8 hH ?_; refine tk 9 hH (st 10 fun K hK => ?_); go_simp; refine hd hK fun hH => st 11 fun K hK => ?_
     try rw [if_pos (by rfl)]
     refine Bs 163 (.tmp 8) (.tmp 33) rfl rfl rfl (l' := [.int .i64 j2.u.n, .int .i64 j2.u.d, .pointer j2.u.p, .int .i64 j2.v.n, .int .i64 j2.v.d, .pointer j2.v.p, .bool j2.nl, .bool j2.nh]) rfl (by kernel_rfl) (by rfl) (IV.one1 _) (w := w) ?_
     intro w4 _ _ _ _ _; refine hd hK fun hH => ?_; refine tk 12 hH (dn ?_); clear hH
     go_wp2_with (first
          | refine E6 rfl 108 Tryz.underlying108 (.tmp 39) rfl ⟨e.l, j2⟩ rfl ?_)
     go_ret2
     exact Qk.fin (V := [⟨e.l, j1⟩]) (U := [⟨e.l, j2⟩]) Ek (Cw.one ii) Ek (Cw.one ii) (fun g h => (by cases h; exact (ii : Ge w _).out))
    ·go_simp; refine hd hK fun hH => st 6 fun K hK => ?_; go_simp; refine Bm (Cc HW) ?_; intro w3 _ j2 _; refine hd hK fun hH => ?_; refine tk 7 hH ?_; refine tk 8 hH ?_; refine tk 9 hH (st 11 fun K hK => ?_)
     try rw [if_pos (by rfl)]
     refine Bs 163 (.tmp 8) (.tmp 33) rfl rfl rfl (l' := [.int .i64 j2.u.n, .int .i64 j2.u.d, .pointer j2.u.p, .int .i64 j2.v.n, .int .i64 j2.v.d, .pointer j2.v.p, .bool j2.nl, .bool j2.nh]) rfl (by kernel_rfl) (by rfl) (IV.one1 _) (w := w) ?_
     intro w4 _ _ _ _ _; refine hd hK fun hH => ?_; refine tk 12 hH (dn ?_); clear hH
     go_wp2_with (first
          | refine E6 rfl 108 Tryz.underlying108 (.tmp 39) rfl ⟨e.l, j2⟩ rfl ?_)
     go_ret2
     exact Qk.fin (V := [⟨e.l, j1⟩]) (U := [⟨e.l, j2⟩]) Ek (Cw.one ii) Ek (Cw.one ii) (fun g h => (by cases h; exact (ii : Ge w _).out))
   ·go_simp; refine hd hK fun hH => st 5 fun K hK => ?_; go_simp; refine Fg (F6) ?_; intros; refine hd hK fun hH => st 6 fun K hK => ?_; go_simp; refine Bm (Cc HW) ?_; intro w3 _ j2 _; refine hd hK fun hH => ?_; refine tk 7 hH ?_; refine tk 8 hH ?_; refine tk 9 hH (st 11 fun K hK => ?_)
    try rw [if_pos (by rfl)]
    refine Bs 163 (.tmp 8) (.tmp 33) rfl rfl rfl (l' := [.int .i64 j2.u.n, .int .i64 j2.u.d, .pointer j2.u.p, .int .i64 j2.v.n, .int .i64 j2.v.d, .pointer j2.v.p, .bool j2.nl, .bool j2.nh]) rfl (by kernel_rfl) (by rfl) (IV.one1 _) (w := w) ?_
    intro w4 _ _ _ _ _; refine hd hK fun hH => ?_; refine tk 12 hH (dn ?_); clear hH
    go_wp2_with (first
         | refine E6 rfl 108 Tryz.underlying108 (.tmp 39) rfl ⟨e.l, j2⟩ rfl ?_)
    go_ret2
    exact Qk.fin (V := [⟨e.l, j1⟩]) (U := [⟨e.l, j2⟩]) Ek (Cw.one ii) Ek (Cw.one ii) (fun g h => (by cases h; exact (ii : Ge w _).out))
variable {r : IQ}
theorem Qbg (h : q < C.length) : Cel.part (C.drop q) m r = if (m.cut r (sd C q).l).2 then Cel.part (C.drop (q + 1)) m (m.cut r (sd C q).l).1 else (IQ.none, false) := by
 rw [List.drop_eq_getElem_cons h, Bz h]; rfl
theorem Qcn (h : C.length ≤ q) : Cel.part (C.drop q) m r = (r, true) := by rw [List.drop_eq_nil_of_le h]; rfl
theorem Qc7 [hs : Sl w (.slice a n c) V.length (rowW V) w0] [hp : Cw w V C] [h1 : Lk w v m] (hV : V.length ≤ 900000) : Calls Tryz.prog 215 #[.slice a n c, .agg #[.int .i64 v.x.n, .int .i64 v.x.d, .pointer v.x.p, .int .i64 v.y.n, .int .i64 v.y.d, .pointer v.y.p, .int .i64 v.z.n, .int .i64 v.z.d, .pointer v.z.p]] w (G7 w (Cel.part C m IQ.all).1 (Cel.part C m IQ.all).2) := by
 obtain rfl := hs.len; have hlen := Lib.hid hp.len; obtain ⟨R, hR⟩ : ∃ x, Cel.part C m IQ.all = x := ⟨_, rfl⟩; rw [hR]; go_enter Tryz.func215, Tryz.ntmps215
 go_wp2_with (first
  | (go_at_call 236; refine Qh8 (Qgx) ?_; intro w1 _ u0 _))
 go_loopw [13, 7] (fun i o wr => ∃ (q : Nat) (u : IV) (r : IQ), i = .int .i64 (q : Int) ∧ o = .bool true ∧ q ≤ V.length ∧ Bx wr w.heap.size 161 [.int .i64 v.x.n, .int .i64 v.x.d, .pointer v.x.p, .int .i64 v.y.n, .int .i64 v.y.d, .pointer v.y.p, .int .i64 v.z.n, .int .i64 v.z.d, .pointer v.z.p] ∧ Bx wr (w.heap.size + 1) 163 [.int .i64 0, .int .i64 0, .pointer none, .int .i64 0, .int .i64 0, .pointer none, .bool false, .bool false] ∧ Bx wr w1.heap.size 163 [.int .i64 u.u.n, .int .i64 u.u.d, .pointer u.u.p, .int .i64 u.v.n, .int .i64 u.v.d, .pointer u.v.p, .bool u.nl, .bool u.nh] ∧ Ik wr u r ∧ Hid (R = Cel.part (C.drop q) m r) ∧ Kp w wr) (fun i _ _ => V.length - (intOf i).toNat)
 case atStart => exact ⟨0, u0, IQ.all, rfl, rfl, by omega, ii, ii, ii, ii, hR.symm, ii⟩
 case round =>
  obtain ⟨q, u, r, rfl, rfl, hq, i1, i2, i3, i4, hE, i5⟩ := hrel; have kw := Kp1.mk i5.out
  have gw : Ge w w1.heap.size := ii
  by_cases hlt : q < V.length
  ·obtain ⟨g, rfl, hA⟩ := hs.form (by omega); have hlt' : (q : Int) < V.length := (by omega); have lq : LtN q V.length := ⟨hlt⟩
   have ew : IntKind.i64.wrap ((q : Int) + 1) = (q : Int) + 1 := Ap (by omega) (by omega)
   obtain ⟨o, ho⟩ : ∃ o, (m.cut r (sd C q).l).2 = o := ⟨_, rfl⟩; have HV := Lib.hid ho
   have hE2 : R = if o then Cel.part (C.drop (q + 1)) m (m.cut r (sd C q).l).1 else (IQ.none, false) := by rw [hE.out, Qbg (by have := hlen.out; omega), ho]
   clear ho
   cases o
   ·subst hE2
    go_wp2_with (first
     | refine A0 (t := 165) (x := .tmp 15) rfl rfl rfl (C6 (k := q) hlt) ?_
     | (go_at_call 179; refine Bm (Cc HV) ?_; intro w2 _ j1 _)
     | refine Hk rfl 163 (.tmp 6) (.tmp 23) rfl rfl rfl (l' := [.int .i64 j1.u.n, .int .i64 j1.u.d, .pointer j1.u.p, .int .i64 j1.v.n, .int .i64 j1.v.d, .pointer j1.v.p, .bool j1.nl, .bool j1.nh]) rfl (by kernel_rfl) (by rfl) (IV.one1 _) (w := w) ?_; intro w3 _ _ _ _ _)
    refine B6 rfl Tryz.underlying163 rfl (by kernel_rfl) rfl rfl rfl ?_
    exact G7.fin ⟨⟨0, 0, none⟩, ⟨0, 0, none⟩, false, false⟩ ⟨CF.zero (by omega), CF.zero (by omega), rfl, rfl⟩ rfl
   ·go_wp2_with (first
     | refine A0 (t := 165) (x := .tmp 15) rfl rfl rfl (C6 (k := q) hlt) ?_
     | (go_at_call 179; refine Bm (Cc HV) ?_; intro w2 _ j1 _)
     | refine Hk rfl 163 (.tmp 6) (.tmp 23) rfl rfl rfl (l' := [.int .i64 j1.u.n, .int .i64 j1.u.d, .pointer j1.u.p, .int .i64 j1.v.n, .int .i64 j1.v.d, .pointer j1.v.p, .bool j1.nl, .bool j1.nh]) rfl (by kernel_rfl) (by rfl) (IV.one1 _) (w := w) ?_; intro w3 _ _ _ _ _)
    go_roundw
    case rel => exact ⟨q + 1, j1, _, by go_num, rfl, by omega, ii, ii, ii, ii, Lib.hid hE2, ii⟩
    case measure => simp [intOf]; omega
  ·obtain rfl : q = V.length := by omega
   have hE2 : R = (r, true) := by rw [hE.out, Qcn (by have := hlen.out; omega)]
   subst hE2; go_wp2_with fail
   refine B6 rfl Tryz.underlying163 rfl (by kernel_rfl) rfl rfl rfl ?_
   exact G7.fin u ii rfl
end
section
open Go.RowKit Cel
theorem R7 (x : Rat) : isgn x.num = sgn' x := by
 rcases Gp x with ⟨h, e⟩ | ⟨h, e⟩ | ⟨h, e⟩ <;> rw [e] <;> unfold sgn' <;> grind
variable {C : List FQ} {V : List GW} {a : Option Addr} {c k n q : Nat} {l m : LQ} {o : Bool} {v : LV} {w w0 : World}
theorem Mu [hs : Sl w (.slice a n c) V.length (rowW V) w0] [hp : Cw w V C] [h1 : Lk w v m] (hV : V.length ≤ 900000) (ho : Hid ((Cel.part C m IQ.all).2 = o)) : Calls Tryz.prog 215 #[.slice a n c, .agg #[.int .i64 v.x.n, .int .i64 v.x.d, .pointer v.x.p, .int .i64 v.y.n, .int .i64 v.y.d, .pointer v.y.p, .int .i64 v.z.n, .int .i64 v.z.d, .pointer v.z.p]] w (G7 w (Cel.part C m IQ.all).1 o) := by rw [← ho.out]; exact Qc7 hV
variable {x y : Rat}
theorem Io {n1 d1 n2 d2 : Int} {p1 p2 : Option Addr} {k1 k2 : Nat} {s : Int} [h : Lk w v l] [hx : CF w (.agg #[.int .i64 n1, .int .i64 d1, .pointer p1]) x k1] [hy : CF w (.agg #[.int .i64 n2, .int .i64 d2, .pointer p2]) y k2] (b : k1 ≤ 30000 ∧ k2 ≤ 30000) (hv : Hid (sgn' (l.val (x, y)) = s)) :
  Calls Tryz.prog 130 #[.agg #[.int .i64 v.x.n, .int .i64 v.x.d, .pointer v.x.p, .int .i64 v.y.n, .int .i64 v.y.d, .pointer v.y.p, .int .i64 v.z.n, .int .i64 v.z.d, .pointer v.z.p], .agg #[.int .i64 n1, .int .i64 d1, .pointer p1, .int .i64 n2, .int .i64 d2, .pointer p2]] w (fun e w' => e = .returned (.int .i64 s) ∧ Below w.heap.size w w') := by
 rw [← hv.out, ← R7]; exact Qhw (by omega)
theorem Cd.up {w' : World} {k' : Nat} {e : Ending} (h : Cd w x y k e w') (b : k ≤ k') : Cd w x y k' e w' := by
 obtain ⟨nx, dx, px, ny, dy, py, rfl, h1, h2, hb⟩ := h; exact ⟨nx, dx, px, ny, dy, py, rfl, h1.cast rfl b, h2.cast rfl b, hb⟩
theorem atC {n d : Int} {p : Option Addr} {t : Rat} [h : Lk w v l] [hx : CF w (.agg #[.int .i64 n, .int .i64 d, .pointer p]) t k] (b : k ≤ 6010) :
  Calls Tryz.prog 176 #[.agg #[.int .i64 v.x.n, .int .i64 v.x.d, .pointer v.x.p, .int .i64 v.y.n, .int .i64 v.y.d, .pointer v.y.p, .int .i64 v.z.n, .int .i64 v.z.d, .pointer v.z.p], .agg #[.int .i64 n, .int .i64 d, .pointer p]] w (Cd w (l.at' t).1 (l.at' t).2 7090) :=
 (Qhr (by omega)).mono fun e w' h => Cd.up h (by omega)
theorem Qdz : (l.a = m.a ∧ l.b = m.b ∧ l.c = m.c) ↔ l = m := by
 obtain ⟨a, b, c⟩ := l; obtain ⟨a', b', c'⟩ := m; simp
theorem T8 {u : LV} [h : Lk w v l] [h' : Lk w u m] (hv : Hid (decide (l = m) = o)) :
  Calls Tryz.prog 237 #[.agg #[.int .i64 v.x.n, .int .i64 v.x.d, .pointer v.x.p, .int .i64 v.y.n, .int .i64 v.y.d, .pointer v.y.p, .int .i64 v.z.n, .int .i64 v.z.d, .pointer v.z.p], .agg #[.int .i64 u.x.n, .int .i64 u.x.d, .pointer u.x.p, .int .i64 u.y.n, .int .i64 u.y.d, .pointer u.y.p, .int .i64 u.z.n, .int .i64 u.z.d, .pointer u.z.p]] w (fun e w' => e = .returned (.bool o) ∧ Below w.heap.size w w') :=
 Qbr (by omega) (Lib.hid (by rw [← hv.out]; exact decide_eq_decide.2 Qdz))
theorem Qde (h : q < C.length) : Ff (C.drop q) l = if sgn' (l.val ((sd C q).l.at' (sd C q).v.sample)) ≠ 0 then sgn' (l.val ((sd C q).l.at' (sd C q).v.sample)) else if (sd C q).l = l then 1 else Ff (C.drop (q + 1)) l := by
 rw [List.drop_eq_getElem_cons h, Bz h]; rfl
theorem Qg7 (h : C.length ≤ q) : Ff (C.drop q) l = -1 := by rw [List.drop_eq_nil_of_le h]; rfl
theorem Qig [hs : Sl w (.slice a n c) V.length (rowW V) w0] [hp : Cw w V C] [h1 : Lk w v m] (hV : V.length ≤ 900000) : Calls Tryz.prog 216 #[.slice a n c, .agg #[.int .i64 v.x.n, .int .i64 v.x.d, .pointer v.x.p, .int .i64 v.y.n, .int .i64 v.y.d, .pointer v.y.p, .int .i64 v.z.n, .int .i64 v.z.d, .pointer v.z.p]] w (fun e w' => e = .returned (.int .i64 (place C m)) ∧ Below w.heap.size w w') := by
 obtain rfl := hs.len; have hlen := Lib.hid hp.len; obtain ⟨o, ho⟩ : ∃ o, (Cel.part C m IQ.all).2 = o := ⟨_, rfl⟩; have HP := Lib.hid ho; obtain ⟨R, hR⟩ : ∃ x, place C m = x := ⟨_, rfl⟩; rw [hR]; unfold place at hR; rw [ho] at hR; clear ho; go_enter Tryz.func216, Tryz.ntmps216
 cases o
 ·have hR2 : Hid (R = Ff C m) := Lib.hid (by rw [← hR]; rfl)
  clear hR
  go_wp2_with (first
   | (go_at_call 215; refine Bm (Mu (by omega) HP) ?_; intro w1 _ j1 _))
  go_loopw [19] (fun i wr => ∃ q : Nat, i = .int .i64 (q : Int) ∧ q ≤ V.length ∧ Bx wr w.heap.size 161 [.int .i64 v.x.n, .int .i64 v.x.d, .pointer v.x.p, .int .i64 v.y.n, .int .i64 v.y.d, .pointer v.y.p, .int .i64 v.z.n, .int .i64 v.z.d, .pointer v.z.p] ∧ Hid (R = Ff (C.drop q) m) ∧ Kp w wr) (fun i _ => V.length - (intOf i).toNat)
  case atStart => exact ⟨0, rfl, by omega, ii, hR2, ii⟩
  case round =>
   obtain ⟨q, rfl, hq, i1, hE, i5⟩ := hrel; clear hR2; have kw := Kp1.mk i5.out
   by_cases hlt : q < V.length
   ·obtain ⟨g, rfl, hA⟩ := hs.form (by omega); have hlt' : (q : Int) < V.length := (by omega); have lq : LtN q V.length := ⟨hlt⟩
    have ew : IntKind.i64.wrap ((q : Int) + 1) = (q : Int) + 1 := Ap (by omega) (by omega)
    have hE2 := (Qde (l := m) (q := q) (C := C) (by have := hlen.out; omega)) ▸ hE.out
    obtain ⟨s, hsd⟩ : ∃ s, sgn' (m.val ((sd C q).l.at' (sd C q).v.sample)) = s := ⟨_, rfl⟩; rw [hsd] at hE2
    have HS : Hid (sgn' (m.val (((sd C q).l.at' (sd C q).v.sample).1, ((sd C q).l.at' (sd C q).v.sample).2)) = s) := Lib.hid hsd
    clear hsd hE
    go_upto_region 7 with (first
     | refine A0 (t := 165) (x := .tmp 21) rfl rfl rfl (C6 (k := q) hlt) ?_)
    refine rgn [] [] fun hH => ?_; refine tk 0 hH ?_; refine tk 1 hH ?_; refine tk 2 hH ?_; refine tk 3 hH ?_; refine tk 4 hH (st 5 fun K hK => ?_); go_simp; refine Ab (Y8) ?_; intros; refine hd hK fun hH => st 6 fun K hK => ?_; go_simp; refine Au (atC (by omega)) ?_; intros; refine hd hK fun hH => st 7 fun K hK => ?_; go_simp; refine Aa (Io (by omega) HS) ?_; intros; refine hd hK fun hH => ?_; refine tk 8 hH (dn ?_); clear hH
    by_cases hs0 : s = 0
    ·obtain ⟨o, ho⟩ : ∃ o, decide ((sd C q).l = m) = o := ⟨_, rfl⟩; have HO := Lib.hid ho
     have hsb : (s != 0) = false := by rw [hs0]; rfl
     have hsb2 : decide (s = 0) = true := decide_eq_true hs0
     rw [if_neg (not_not_intro hs0)] at hE2
     cases o
     ·rw [if_neg (of_decide_eq_false ho)] at hE2; clear ho
      go_wp2_with (first
       | (go_at_call 237; refine Aa (T8 HO) ?_; intros))
      go_roundw
      case rel => exact ⟨q + 1, by go_num, by omega, ii, Lib.hid hE2, ii⟩
      case measure => simp [intOf]; omega
     ·rw [if_pos (of_decide_eq_true ho)] at hE2; clear ho; subst hE2
      go_wp2_with (first
       | (go_at_call 237; refine Aa (T8 HO) ?_; intros))
      go_ret; exact E.fin rfl
    ·rw [if_pos hs0] at hE2
     have hsb : (s != 0) = true := by simp [hs0]
     have hsb2 : decide (s = 0) = false := decide_eq_false hs0
     subst hE2; go_wp2_with fail; go_ret; exact E.fin rfl
   ·obtain rfl : q = V.length := by omega
    have hE2 : R = -1 := by rw [hE.out, Qg7 (by have := hlen.out; omega)]
    subst hE2; go_wp2_with fail; go_ret; exact E.fin rfl
 ·subst hR
  go_wp2_with (first
   | (go_at_call 215; refine Bm (Mu (by omega) HP) ?_; intro w1 _ j1 _))
  go_ret; exact E.fin (by rfl)
end
end Go.Proofs.YtpnpnlmlamfpmaaGreatDoor
