/- Layer 6, walked: an entry that is taken out; what layer 6's functions come to, in the print's own form. -/
import Derived.Test.YtobjfdebcflocaaDoorNameI
import Derived.Test.YtobjfdebcflocaaDoorNameH
import Derived.Deep.RegionHeld3
import Derived.Deep.RegionWith
set_option linter.unusedVariables false
set_option linter.unusedSimpArgs false
namespace Go.Proofs.YtobjfdebcflocaaDoor.Q
open Go.RowKit Go.Shelf Go.Lib Go.Proofs.YtobjfdebcflocaaDoorW.PrintWords Go.Proofs.YtobjfdebcflocaaDoorW.PrintLast Go.Proofs.YtobjfdebcflocaaDoorW.PrintMore

set_option maxHeartbeats 4000000 in
set_option maxRecDepth 100000 in
theorem leave_good (A : Option Addr) (c : Nat) (xs : List S56) (s : ByteArray) (w : World) (hl : xs.length ≤ 1000000) (hc : xs.length ≤ c) (hr : Kd.C k56 w A xs.length xs) (h3 : isAt xs s (placeOf xs s) = true) :
    Calls Tryd.prog 24 #[.slice A xs.length c, .string s] w fun e w' => ∃ v', e = .returned (.tuple #[v', .int .i64 (xs.getD (placeOf xs s) z56).f1, .int .i64 0]) ∧ w'.ownsRow w.heap.size 56 2 v' (xs.length - 1) (flatE (xs.take (placeOf xs s) ++ xs.drop (placeOf xs s + 1))) ∧ Below w.heap.size w w' := by
  have hi : placeOf xs s < xs.length := by
    unfold isAt at h3
    simp only [Bool.and_eq_true, decide_eq_true_eq] at h3
    exact h3.1
  have HP := place_calls A c xs s w hr hc (by omega)
  rw [h3] at HP
  clear h3
  generalize placeOf xs s = i at *
  obtain ⟨ad, rfl, hx0, hx1⟩ := at_T56 hr (i : Int) (by omega) (by omega)
  rw [Int.toNat_natCast] at hx0 hx1
  have hxx : rd_T56 xs (i : Int) = xs.getD i z56 := rfl
  rw [hxx] at hx0 hx1
  generalize xs.getD i z56 = x at *
  have HPL := Lib.hid HP
  have HCL := Lib.hid (fun (W : World) (hb : Below w.heap.size w W) => clone_calls (some ad) c xs W (by omega) (Kd.C_below hr hb))
  have HX := Lib.hid hx1
  have p1 : (0 : Int) ≤ (i : Int) := by omega
  have q1 : (i : Int) < (xs.length : Int) := by omega
  have hw1 : IntKind.i64.wrap ((i : Int) + 1) = (i : Int) + 1 := by rw [IntKind.wrap_i64]; omega
  clear hr HP hx0 hx1 hxx
  go_enter Tryd.func24, Tryd.ntmps24
  go_wp2_with (first | (go_at_call 30; refine HPL.out.mono ?_; rintro e w1 ⟨rfl, hb1⟩))
  have HQ1 : Hid (w1.cell? ⟨(ad.add (i * 2)).block, (ad.add (i * 2)).off + 1, none⟩ = some (.int .i64 x.f1)) := Lib.hid ((hb1.cell (World.block_lt_of_cell? w _ HX.out)).trans HX.out)
  have HBD : Hid (Below w.heap.size w w1.drew) := Lib.hid (below_drew hb1)
  refine start_ (n := 14) (S := fun w' => w'.cell? ⟨(ad.add (i * 2)).block, (ad.add (i * 2)).off + 1, none⟩ = some (.int .i64 x.f1)) (ds := []) #[false, false, false, false, false, false, false, false, false, false, false, false, false, false] (by kernel_rfl) rfl rfl (HQ1.out) (fun hHeld => ?_)
  refine pure_ (i := 0) (N := some 18) (v := ?_) (a' := ?_) #[true, false, false, false, false, false, false, false, false, false, false, false, false, false] rfl rfl (by kernel_rfl) (fun _ _ _ h => h) (Or.inl ⟨by rfl, ?_⟩) ?_ ?_
  rotate_left
  · intro w'
    go_simp
    with_reducible rfl
  rotate_left
  · simp only [Act.put, List.setIfInBounds_toArray, List.set_cons_zero, List.set_cons_succ, i64_w, i32_w]
    rfl
  refine pure_ (i := 2) (N := some 20) (v := ?_) (a' := ?_) #[true, false, true, false, false, false, false, false, false, false, false, false, false, false] rfl rfl (by kernel_rfl) (fun _ _ _ h => h) (Or.inl ⟨by rfl, ?_⟩) ?_ ?_
  rotate_left
  · intro w'
    go_simp
    with_reducible rfl
  rotate_left
  · simp only [Act.put, List.setIfInBounds_toArray, List.set_cons_zero, List.set_cons_succ, i64_w, i32_w]
    rfl
  refine pure_ (i := 3) (N := some 21) (v := ?_) (a' := ?_) #[true, false, true, true, false, false, false, false, false, false, false, false, false, false] rfl rfl (by kernel_rfl) (fun _ _ _ h => h) (Or.inl ⟨by rfl, ?_⟩) ?_ ?_
  rotate_left
  · intro w'
    go_simp
    with_reducible rfl
  rotate_left
  · simp only [Act.put, List.setIfInBounds_toArray, List.set_cons_zero, List.set_cons_succ, i64_w, i32_w]
    rfl
  refine pure_ (i := 4) (N := some 22) (v := ?_) (a' := ?_) #[true, false, true, true, true, false, false, false, false, false, false, false, false, false] rfl rfl (by kernel_rfl) (fun _ _ _ h => h) (Or.inl ⟨by rfl, ?_⟩) ?_ ?_
  rotate_left
  · intro w'
    go_simp
    with_reducible rfl
  rotate_left
  · simp only [Act.put, List.setIfInBounds_toArray, List.set_cons_zero, List.set_cons_succ, i64_w, i32_w]
    rfl
  refine pure_ (i := 6) (N := some 24) (v := ?_) (a' := ?_) #[true, false, true, true, true, false, true, false, false, false, false, false, false, false] rfl rfl (by kernel_rfl) (fun _ _ _ h => h) (Or.inl ⟨by rfl, ?_⟩) ?_ ?_
  rotate_left
  · intro w'
    go_simp
    with_reducible rfl
  rotate_left
  · simp only [Act.put, List.setIfInBounds_toArray, List.set_cons_zero, List.set_cons_succ, i64_w, i32_w]
    rfl
  refine pure_ (i := 7) (N := some 25) (v := ?_) (a' := ?_) #[true, false, true, true, true, false, true, true, false, false, false, false, false, false] rfl rfl (by kernel_rfl) (fun _ _ _ h => h) (Or.inl ⟨by rfl, ?_⟩) ?_ ?_
  rotate_left
  · intro w'
    go_simp
    with_reducible rfl
  rotate_left
  · simp only [Act.put, List.setIfInBounds_toArray, List.set_cons_zero, List.set_cons_succ, i64_w, i32_w]
    rfl
  refine pure_ (i := 8) (N := some 26) (v := ?_) (a' := ?_) #[true, false, true, true, true, false, true, true, true, false, false, false, false, false] rfl rfl (by kernel_rfl) (fun _ _ _ h => h) (Or.inl ⟨by rfl, ?_⟩) ?_ ?_
  rotate_left
  · intro w'
    go_simp
    with_reducible rfl
  rotate_left
  · simp only [Act.put, List.setIfInBounds_toArray, List.set_cons_zero, List.set_cons_succ, i64_w, i32_w]
    rfl
  refine pure_ (i := 9) (N := some 27) (v := ?_) (a' := ?_) #[true, false, true, true, true, false, true, true, true, true, false, false, false, false] rfl rfl (by kernel_rfl) (fun _ _ _ h => h) (Or.inl ⟨by rfl, ?_⟩) ?_ ?_
  rotate_left
  · intro w'
    go_simp
    with_reducible rfl
  rotate_left
  · simp only [Act.put, List.setIfInBounds_toArray, List.set_cons_zero, List.set_cons_succ, i64_w, i32_w]
    rfl
  refine take_ (i := 10) (N := some 28) (v := ?_) (a' := ?_) #[true, false, true, true, true, false, true, true, true, true, true, false, false, false] rfl rfl (by kernel_rfl) (fun _ _ _ h => h) (Or.inl ⟨by rfl, ?_⟩) hHeld ?_ ?_
  rotate_left
  · intro w' s0
    go_simp
    with_reducible rfl
  rotate_left
  · simp only [Act.put, List.setIfInBounds_toArray, List.set_cons_zero, List.set_cons_succ, i64_w, i32_w]
    rfl
  refine one_ (i := 1) (N := some 19) #[true, true, true, true, true, false, true, true, true, true, true, false, false, false] rfl rfl (by kernel_rfl) (by decide) (fun K hK => ?_)
  refine goes_ Tryd.func33 (by kernel_rfl) rfl #[.slice (some ad) xs.length c] (by rfl) rfl rfl (by simp only [List.map_toArray, List.map_cons, List.map_nil]; rfl) ?_
  with_reducible refine (HCL.out _ HBD.out).mono ?_
  rintro e w3 ⟨v, rfl, ho3, hb3⟩
  refine ⟨_, rfl, ?_⟩
  have hq3 := (hb3.cell (World.block_lt_of_cell? _ _ HQ1.out)).trans HQ1.out
  have HO3 := Lib.hid ho3; have HB3 := Lib.hid hb3
  clear ho3 hb3
  refine hK.out _ _ (hq3) (fun hHeld => ?_)
  clear hK K
  refine norm_ (a' := ?_) ?_ ?_
  rotate_left
  · show Act.put _ (some 19) _ = _
    simp only [Act.put, List.setIfInBounds_toArray, List.set_cons_zero, List.set_cons_succ, i64_w, i32_w]
    rfl
  refine one_ (i := 5) (N := some 23) #[true, true, true, true, true, true, true, true, true, true, true, false, false, false] rfl rfl (by kernel_rfl) (by decide) (fun K hK => ?_)
  refine goes_ Tryd.func34 (by kernel_rfl) rfl #[v, .int .i64 i, .int .i64 ((i : Int) + 1)] (by rfl) rfl rfl (by simp only [List.map_toArray, List.map_cons, List.map_nil]; rfl) ?_
  with_reducible refine (delete_calls _ xs i v w3 hi (by omega) HO3.out).mono ?_
  rintro e w4 ⟨v4, rfl, ho4, hb4⟩
  refine ⟨_, rfl, ?_⟩
  have hq4 := (hb4.cell (World.block_lt_of_cell? _ _ HQ1.out)).trans hq3
  have HO4 := Lib.hid ho4; have HB4 := Lib.hid hb4
  clear ho4 hb4
  refine hK.out _ _ (hq4) (fun hHeld => ?_)
  clear hK K
  refine norm_ (a' := ?_) ?_ ?_
  rotate_left
  · show Act.put _ (some 23) _ = _
    simp only [Act.put, List.setIfInBounds_toArray, List.set_cons_zero, List.set_cons_succ, i64_w, i32_w]
    rfl
  refine pure_ (i := 11) (N := some 4) (v := ?_) (a' := ?_) #[true, true, true, true, true, true, true, true, true, true, true, true, false, false] rfl rfl (by kernel_rfl) (fun _ _ _ h => h) (Or.inl ⟨by rfl, ?_⟩) ?_ ?_
  rotate_left
  · intro w'
    go_simp
    with_reducible rfl
  rotate_left
  · simp only [Act.put, List.setIfInBounds_toArray, List.set_cons_zero, List.set_cons_succ, i64_w, i32_w]
    rfl
  refine pure_ (i := 12) (N := some 5) (v := ?_) (a' := ?_) #[true, true, true, true, true, true, true, true, true, true, true, true, true, false] rfl rfl (by kernel_rfl) (fun _ _ _ h => h) (Or.inl ⟨by rfl, ?_⟩) ?_ ?_
  rotate_left
  · intro w'
    go_simp
    with_reducible rfl
  rotate_left
  · simp only [Act.put, List.setIfInBounds_toArray, List.set_cons_zero, List.set_cons_succ, i64_w, i32_w]
    rfl
  refine pure_ (i := 13) (N := some 6) (v := ?_) (a' := ?_) #[true, true, true, true, true, true, true, true, true, true, true, true, true, true] rfl rfl (by kernel_rfl) (fun _ _ _ h => h) (Or.inl ⟨by rfl, ?_⟩) ?_ ?_
  rotate_left
  · intro w'
    go_simp
    with_reducible rfl
  rotate_left
  · simp only [Act.put, List.setIfInBounds_toArray, List.set_cons_zero, List.set_cons_succ, i64_w, i32_w]
    rfl
  refine done_ (by kernel_rfl) ?_
  go_wp2
  go_ret3
  exact ⟨_, rfl, own_weaken HO4.out hb1.size, (below_drew hb1).trans ((HB3.out.mono hb1.size).trans (HB4.out.mono hb1.size))⟩
end Go.Proofs.YtobjfdebcflocaaDoor.Q
