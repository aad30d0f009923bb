/-
  Texts of this claim, joined: Rt.
-/
import Derived.Test.YtdlnoeegboapkaaGreatDoorBT
import Derived.Test.YtdlnoeegboapkaaGreatDoorBQ
/- Rotations of valid rings: plain facts. -/
namespace Go.Proofs.YtdlnoeegboapkaaGreatDoor
open Go.RowKit
set_option linter.unusedVariables false

theorem dsc_list (L : List (Rat × Rat)) : ∀ k, k ≤ L.length → ∃ M : List (Rat × Rat), M.Nodup ∧ M.length = dsc L k ∧ ∀ x, x ∈ M ↔ x ∈ L.take k := by
  intro k
  induction k with
  | zero => exact fun _ => ⟨[], List.nodup_nil, rfl, fun x => by simp⟩
  | succ k ih =>
    intro hk
    obtain ⟨M, h1, h2, h3⟩ := ih (by omega)
    by_cases hm : pg L k ∈ L.take k
    · exact ⟨M, h1, by rw [dsc, if_pos hm, h2, Nat.add_zero], fun x => by
        rw [h3, take_succ_mem (by omega)]
        constructor
        · exact .inl
        · rintro (h | rfl)
          · exact h
          · exact hm⟩
    · refine ⟨M ++ [pg L k], ?_, by rw [dsc, if_neg hm, List.length_append, h2]; rfl, fun x => ?_⟩
      · rw [List.nodup_append]
        exact ⟨h1, by simp, fun a ha b hb => by
          rw [List.mem_singleton] at hb
          subst hb
          intro e
          subst e
          exact hm ((h3 _).1 ha)⟩
      · rw [List.mem_append, h3, List.mem_singleton, take_succ_mem (by omega)]
theorem three_of {L : List (Rat × Rat)} (h : 3 ≤ dsc L L.length) : ∃ a b c, (a ∈ L ∧ b ∈ L ∧ c ∈ L) ∧ a ≠ b ∧ a ≠ c ∧ b ≠ c := by
  obtain ⟨M, h1, h2, h3⟩ := dsc_list L L.length (Nat.le_refl _)
  rw [List.take_length] at h3
  match M, h1, h2, h3 with
  | [], _, h2, _ => simp at h2; omega
  | [_], _, h2, _ => simp at h2; omega
  | [_, _], _, h2, _ => simp at h2; omega
  | a :: b :: c :: M, h1, _, h3 =>
    simp only [List.nodup_cons, List.mem_cons, not_or] at h1
    exact ⟨a, b, c, ⟨(h3 a).1 (by simp), (h3 b).1 (by simp), (h3 c).1 (by simp)⟩, h1.1.1, h1.1.2.1, h1.2.1.1⟩
theorem of_three {L : List (Rat × Rat)} {a b c : Rat × Rat} (hm : a ∈ L ∧ b ∈ L ∧ c ∈ L) (h1 : a ≠ b) (h2 : a ≠ c) (h3 : b ≠ c) : 3 ≤ dsc L L.length := by
  obtain ⟨M, _, e, h4⟩ := dsc_list L L.length (Nat.le_refl _)
  rw [List.take_length] at h4
  rw [← e]
  have ha := (h4 a).2 hm.1
  have hb := (h4 b).2 hm.2.1
  have hc := (h4 c).2 hm.2.2
  match M, ha, hb, hc with
  | [], ha, _, _ => simp at ha
  | [x], ha, hb, _ =>
    rw [List.mem_singleton] at ha hb
    exact absurd (ha.trans hb.symm) h1
  | [x, y], ha, hb, hc =>
    simp only [List.mem_cons, List.not_mem_nil, or_false] at ha hb hc
    rcases ha with rfl | rfl <;> rcases hb with rfl | rfl <;> rcases hc with rfl | rfl <;> simp_all
  | _ :: _ :: _ :: _, _, _, _ => simp
theorem rot_mem {L : List (Rat × Rat)} {i : Nat} {x : Rat × Rat} : x ∈ rot L i ↔ x ∈ L := by
  rw [rot, List.mem_append, or_comm, ← List.mem_append, List.take_append_drop]
theorem edge_pc {L : List (Rat × Rat)} (h : RingOK L) (m : Nat) : pc L m ≠ pc L (m + 1) := by
  have h0 := h.pos
  have hm : m % L.length < L.length := Nat.mod_lt _ h0
  have := h.edge _ hm
  rw [pc, pc]
  rw [show (m + 1) % L.length = (m % L.length + 1) % L.length by rw [Nat.mod_add_mod]]
  exact this
theorem RingOK.rot {L : List (Rat × Rat)} (h : RingOK L) {i : Nat} (hi : i < L.length) : RingOK (rot L i) := by
  obtain ⟨a, b, c, ⟨m1, m2, m3⟩, h1, h2, h3⟩ := three_of h.three
  refine ⟨of_three ⟨rot_mem.2 m1, rot_mem.2 m2, rot_mem.2 m3⟩ h1 h2 h3, fun j hj => ?_⟩
  have e1 : pg (Go.Proofs.YtdlnoeegboapkaaGreatDoor.rot L i) j = pc (Go.Proofs.YtdlnoeegboapkaaGreatDoor.rot L i) j := (pc_lt hj).symm
  have e2 : pg (Go.Proofs.YtdlnoeegboapkaaGreatDoor.rot L i) ((j + 1) % (Go.Proofs.YtdlnoeegboapkaaGreatDoor.rot L i).length) = pc (Go.Proofs.YtdlnoeegboapkaaGreatDoor.rot L i) (j + 1) := rfl
  rw [e1, e2, rot_pc hi, rot_pc hi, show j + 1 + i = j + i + 1 by omega]
  exact edge_pc h _
theorem revL_mem {L : List (Rat × Rat)} {x : Rat × Rat} : x ∈ revL L ↔ x ∈ L := by
  cases L with
  | nil => simp [revL]
  | cons p M => simp [revL]
theorem RingOK.rev {L : List (Rat × Rat)} (h : RingOK L) : RingOK (revL L) := by
  obtain ⟨a, b, c, ⟨m1, m2, m3⟩, h1, h2, h3⟩ := three_of h.three
  have h0 := h.pos
  refine ⟨of_three ⟨revL_mem.2 m1, revL_mem.2 m2, revL_mem.2 m3⟩ h1 h2 h3, fun j hj => ?_⟩
  rw [revL_len] at hj
  have e1 : pg (revL L) j = pc (revL L) j := (pc_lt (by rw [revL_len]; exact hj)).symm
  have e2 : pg (revL L) ((j + 1) % (revL L).length) = pc (revL L) (j + 1) := rfl
  rw [e1, e2, revL_pc (by omega) h0, revL_pc (by omega) h0]
  have := edge_pc h (L.length - (j + 1))
  rw [show L.length - (j + 1) + 1 = L.length - j by omega] at this
  exact this.symm
theorem RingOK.canon {L : List (Rat × Rat)} (h : RingOK L) : RingOK (canonL L) := by
  rcases bst_rot L L.length (Nat.le_refl _) with e | ⟨k, hk, e⟩
  · rw [canonL, e]; exact h
  · rw [canonL, e]; exact h.rot hk
end Go.Proofs.YtdlnoeegboapkaaGreatDoor
