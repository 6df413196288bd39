/- Layer 6, walked: what layer 6's functions come to, in the form in which the print would have told them. -/
import Derived.Test.YtobjfdebcflocaaDoorNameJ
set_option linter.unusedVariables false
namespace Go.Proofs.YtobjfdebcflocaaDoor.Q
open Go.RowKit Go.Proofs.YtobjfdebcflocaaDoorW.PrintWords Go.Proofs.YtobjfdebcflocaaDoorW.PrintLast Go.Proofs.YtobjfdebcflocaaDoorW.PrintMore

theorem name_place.calls (A0 : Option Addr) (c0 : Nat) (l0 : List S56) (a1 : ByteArray) (r1 : Int) (r2 : Bool) (w : World) (hr0 : Kd.C k56 w A0 l0.length l0) (hc0 : l0.length ≤ c0) (h : name_place.f l0 a1 = some (r1, r2)) :
    Calls Tryd.prog 30 #[.slice A0 l0.length c0, .string a1] w fun e w' => e = .returned (.tuple #[.int .i64 r1, .bool r2]) ∧ Below w.heap.size w w' := by
  unfold name_place.f at h
  split at h
  · rename_i hl
    obtain ⟨rfl, rfl⟩ := Prod.mk.inj (Option.some.inj h)
    exact place_calls A0 c0 l0 a1 w hr0 hc0 hl
  · cases h
/-- A row that the call has made, as one that may be shared. -/
theorem V_of_made {w w' : World} {P : Nat → Prop} {v : Value} {xs : List S56} (h : w'.ownsRow w.heap.size 56 2 v xs.length (flatE xs)) : Kd.V k56 56 w' w.heap.size (fun k_ => (P k_ ∨ w.heap.size ≤ k_)) v xs :=
  Kd.V_mono (Kd.R_V (R_of_entries h)) (fun k hk => .inr (by first | exact hk | exact hk.1 | exact hk.2))
def name_Enter.f (l0 : List S56) (a1 : ByteArray) (a2 : Int) : Option (List S56 × Int) := if l0.length ≤ 1000000 then some (enterR l0 a1 a2) else none
theorem name_Enter.calls (P0_ : Nat → Prop) (A0 : Option Addr) (c0 : Nat) (l0 : List S56) (a1 : ByteArray) (a2 : Int) (r1 : List S56) (r2 : Int) (w : World) (hs0 : Kd.V k56 56 w w.heap.size (fun k_ => P0_ k_) (.slice A0 l0.length c0) l0) (h : name_Enter.f l0 a1 a2 = some (r1, r2)) :
    Calls Tryd.prog 22 #[.slice A0 l0.length c0, .string a1, .int .i64 a2] w fun e w' => ∃ v0_ : Value, e = .returned (.tuple #[v0_, .int .i64 r2]) ∧ Kd.V k56 56 w' w.heap.size (fun k_ => (P0_ k_ ∨ w.heap.size ≤ k_)) v0_ r1 ∧ Below w.heap.size w w' := by
  unfold name_Enter.f at h
  split at h
  · rename_i hl
    replace h := Option.some.inj h
    obtain ⟨_, hcl, hC⟩ := Kd.V_reads' hs0
    have give : ∀ code : Int, (r1, r2) = (l0, code) → ∀ e w', (e = Ending.returned (.tuple #[.slice A0 l0.length c0, .int .i64 code]) ∧ Below w.heap.size w w') → ∃ v0_ : Value, e = .returned (.tuple #[v0_, .int .i64 r2]) ∧ Kd.V k56 56 w' w.heap.size (fun k_ => (P0_ k_ ∨ w.heap.size ≤ k_)) v0_ r1 ∧ Below w.heap.size w w' := by
      rintro code hc e w' ⟨rfl, hb⟩
      obtain ⟨rfl, rfl⟩ := Prod.mk.inj hc
      exact ⟨_, rfl, Kd.V_mono (Kd.V_below hs0 hb) (fun _ hk => .inl hk), hb⟩
    unfold enterR at h
    cases h1 : badName a1 with
    | true =>
      rw [h1, if_pos rfl] at h
      exact (enter_bad A0 c0 l0 a1 a2 w hl hcl hC h1).mono (give 10 h.symm)
    | false =>
      rw [h1, if_neg (by decide)] at h
      by_cases h2 : a2 < 1
      · rw [if_pos h2] at h
        exact (enter_arg A0 c0 l0 a1 a2 w hl hcl hC h1 h2).mono (give 1 h.symm)
      · rw [if_neg h2] at h
        cases h3 : isAt l0 a1 (placeOf l0 a1) with
        | true =>
          rw [h3, if_pos rfl] at h
          exact (enter_there A0 c0 l0 a1 a2 w hl hcl hC h1 h2 h3).mono (give 7 h.symm)
        | false =>
          rw [h3, if_neg (by decide)] at h
          by_cases h4 : 256 ≤ l0.length
          · rw [if_pos h4] at h
            exact (enter_room A0 c0 l0 a1 a2 w hl hcl hC h1 h2 h3 h4).mono (give 12 h.symm)
          · rw [if_neg h4] at h
            obtain ⟨rfl, rfl⟩ := Prod.mk.inj h
            refine (enter_good A0 c0 l0 a1 a2 w (by omega) hcl hC h1 h2 h3).mono ?_
            rintro e w' ⟨v', rfl, ho, hb⟩
            refine ⟨v', rfl, V_of_made ?_, hb⟩
            have hp := placeOf_le l0 a1
            rw [show (l0.take (placeOf l0 a1) ++ ⟨a1, a2⟩ :: l0.drop (placeOf l0 a1)).length = l0.length + 1 by rw [List.length_append, List.length_take, List.length_cons, List.length_drop]; omega]
            exact ho
  · cases h
def name_Leave.f (l0 : List S56) (a1 : ByteArray) : Option (List S56 × Int × Int) := if l0.length ≤ 1000000 then some (leaveR l0 a1) else none
theorem name_Leave.calls (P0_ : Nat → Prop) (A0 : Option Addr) (c0 : Nat) (l0 : List S56) (a1 : ByteArray) (r1 : List S56) (r2 r3 : Int) (w : World) (hs0 : Kd.V k56 56 w w.heap.size (fun k_ => P0_ k_) (.slice A0 l0.length c0) l0) (h : name_Leave.f l0 a1 = some (r1, r2, r3)) :
    Calls Tryd.prog 24 #[.slice A0 l0.length c0, .string a1] w fun e w' => ∃ v0_ : Value, e = .returned (.tuple #[v0_, .int .i64 r2, .int .i64 r3]) ∧ Kd.V k56 56 w' w.heap.size (fun k_ => (P0_ k_ ∨ w.heap.size ≤ k_)) v0_ r1 ∧ Below w.heap.size w w' := by
  unfold name_Leave.f at h
  split at h
  · rename_i hl
    replace h := Option.some.inj h
    obtain ⟨_, hcl, hC⟩ := Kd.V_reads' hs0
    unfold leaveR at h
    cases h3 : isAt l0 a1 (placeOf l0 a1) with
    | true =>
      have hi : placeOf l0 a1 < l0.length := by
        have h4 := h3
        unfold isAt at h4
        simp only [Bool.and_eq_true, decide_eq_true_eq] at h4
        exact h4.1
      rw [h3, if_pos rfl] at h
      simp only [Prod.mk.injEq] at h
      obtain ⟨rfl, rfl, rfl⟩ := h
      refine (leave_good A0 c0 l0 a1 w hl hcl hC h3).mono ?_
      rintro e w' ⟨v', rfl, ho, hb⟩
      refine ⟨v', rfl, V_of_made ?_, hb⟩
      rw [show (l0.take (placeOf l0 a1) ++ l0.drop (placeOf l0 a1 + 1)).length = l0.length - 1 by rw [List.length_append, List.length_take, List.length_drop]; omega]
      exact ho
    | false =>
      rw [h3, if_neg (by decide)] at h
      simp only [Prod.mk.injEq] at h
      obtain ⟨rfl, rfl, rfl⟩ := h
      refine (leave_none A0 c0 l0 a1 w hl hcl hC h3).mono ?_
      rintro e w' ⟨rfl, hb⟩
      exact ⟨_, rfl, Kd.V_mono (Kd.V_below hs0 hb) (fun _ hk => .inl hk), hb⟩
  · cases h
end Go.Proofs.YtobjfdebcflocaaDoor.Q
