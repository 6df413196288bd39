/- The machine's side of laws of this seat: Go functions as Lean functions, and the proof that a call of each comes to what its function says (written by a program of this session, px.py, that runs the kit's print). -/
import Derived.Test.YtobjfdebcflocaaDoorNameE
import Derived.Test.YtobjfdebcflocaaDoorQ0
import Derived.Test.YtobjfdebcflocaaDoorQ2
import Derived.Test.YtobjfdebcflocaaDoorQ3
import Derived.Test.YtobjfdebcflocaaDoorQ4
namespace Go.Proofs.YtobjfdebcflocaaDoor.Q
open Go.RowKit Go.Proofs.YtobjfdebcflocaaDoorW.PrintWords Go.Proofs.YtobjfdebcflocaaDoorW.PrintLast Go.Proofs.YtobjfdebcflocaaDoorW.PrintMore
attribute [local go_sem] max2_int min2_int max_two min_two max_three min_three max_four min_four   -- for this text's walks alone
attribute [local go_sem high] Go.Proofs.YtobjfdebcflocaaDoor.px_xor_u8 Go.Proofs.YtobjfdebcflocaaDoor.px_xor_u16 Go.Proofs.YtobjfdebcflocaaDoor.px_xor_u32 Go.Proofs.YtobjfdebcflocaaDoor.px_xor_u64
set_option linter.unusedVariables false
set_option linter.unusedSimpArgs false

/-! ### copyholdref06_Names: function 21 -/
def copyholdref06_Names.l0 : Nat → List (S56) → List ByteArray → Int → Option (List ByteArray)
  | 0, _, _, _ => none
  | k + 1, x0, x3, x4 => if x4 < (x0.length : Int) then (if 0 ≤ x4 then (if x3.length < 8796093022208 then (copyholdref06_Names.l0 k x0 (x3 ++ [(rd_T56 x0 x4).f0]) (wrap64 (x4 + 1))) else (none)) else (none)) else (some x3)
def copyholdref06_Names.f (k : Nat) (l0 : List (S56)) : Option (List ByteArray) := copyholdref06_Names.l0 k l0 ([] : List ByteArray) 0
theorem copyholdref06_Names.mono_l : ∀ k, (∀ y0 y1 y2, LeO (copyholdref06_Names.l0 k y0 y1 y2) (copyholdref06_Names.l0 (k + 1) y0 y1 y2))
  | 0 => fun _ _ _ r h => by simp [copyholdref06_Names.l0] at h
  | k + 1 => by
    have ih0 := copyholdref06_Names.mono_l k
    · intro y0 y1 y2
      unfold copyholdref06_Names.l0
      repeat' first
      | (with_reducible exact ih0 _ _ _)
      | (with_reducible exact LeO.refl _)
      | (with_reducible exact LeO.none _)
      | (with_reducible refine LeO.ite ?_ ?_)
      | (with_reducible refine LeO.bind ?_ (fun _ => ?_))
      | exact ih0 _ _ _
      | exact LeO.none _
      | refine LeO.ite ?_ ?_
      | refine LeO.bind ?_ (fun _ => ?_)
theorem copyholdref06_Names.mono : ∀ a0 k, LeO (copyholdref06_Names.f k a0) (copyholdref06_Names.f (k + 1) a0) := by
  intro a0 k
  have ih0 := copyholdref06_Names.mono_l k
  unfold copyholdref06_Names.f
  repeat' first
      | (with_reducible exact ih0 _ _ _)
      | (with_reducible exact LeO.refl _)
      | (with_reducible exact LeO.none _)
      | (with_reducible refine LeO.ite ?_ ?_)
      | (with_reducible refine LeO.bind ?_ (fun _ => ?_))
      | exact ih0 _ _ _
      | exact LeO.none _
      | refine LeO.ite ?_ ?_
      | refine LeO.bind ?_ (fun _ => ?_)
set_option maxHeartbeats 8000000 in
set_option maxRecDepth 100000 in
theorem copyholdref06_Names.calls (k : Nat) (A0 : Option Addr) (c0 : Nat) (l0 : List (S56)) (r : List ByteArray) (w : World) (hr0 : Kd.C k56 w A0 l0.length l0) (hc0 : l0.length ≤ c0) (h : copyholdref06_Names.f k l0 = some r) :
    Calls Tryd.prog 21 #[.slice A0 l0.length c0] w fun e w' => ∃ v0_ : Value, e = .returned (v0_) ∧ Kd.R Kd.string 9 w' w.heap.size (fun _ => True) v0_ r ∧ Below w.heap.size w w' := by
  have HR0 := Aside0.mk hr0
  have HC0 := Aside0.mk hc0
  clear hr0 hc0
  have HB := Aside0.mk (Below.refl w.heap.size w)
  have H : (copyholdref06_Names.l0 k l0 ([] : List ByteArray) 0) = some r := h
  clear h
  have H' := Aside0.mk H
  clear H
  go_enter Tryd.func21, Tryd.ntmps21
  go_wp2
  go_loopg [3, 4] k (fun kq v3 v4 w' => ∃ (x3_1 : List ByteArray) (x4_1 : Int), v4 = .int .i64 x4_1 ∧ Aside0 (copyholdref06_Names.l0 kq l0 x3_1 x4_1 = some r) ∧ Aside0 (kq ≤ k) ∧ Aside0 (Kd.R Kd.string 9 w' w.heap.size (fun _ => True) v3 x3_1) ∧ Aside0 (Below w.heap.size w w'))
  case atStart => exact ⟨(([] : List ByteArray)), (0), (by first | rfl | (simp; done) | (simp [*]; done)), H', ⟨Nat.le_refl _⟩, ⟨by first | exact Kd.R_nil _ _ _ _ _ | exact Kd.N_nil _ _ _ _ _ | exact Kd.V_nil _ _ _ _ _ | exact Kd.Q_nil _ _ _ _ _ | exact Kd.S_nil _ _ _ _ _⟩, ⟨by repeat (first | (with_reducible first | exact HB.out | apply below_alloc | apply pw_below_drewN | apply below_drew1) | exact HB.out)⟩⟩
  case round =>
    clear H'
    obtain ⟨x3_1, x4_1, rfl, HA, HK1, HO_3, HB⟩ := hrel
    cases gk with
    | zero => exact absurd HA.out (by simp [copyholdref06_Names.l0])
    | succ k1 =>
      have H := HA.out
      clear HA
      simp only [copyholdref06_Names.l0] at H
      by_cases c2 : x4_1 < (l0.length : Int)
      · rw [if_pos c2] at H
        have c2b0 : decide (x4_1 < (l0.length : Int)) = true := decide_eq_true c2
        clear c2
        by_cases c3 : 0 ≤ x4_1
        · rw [if_pos c3] at H
          have c3b0 : decide (0 ≤ x4_1) = true := decide_eq_true c3
          clear c3
          by_cases c4 : x3_1.length < 8796093022208
          · rw [if_pos c4] at H
            have LMc4 := Aside0.mk c4
            clear c4
            obtain ⟨y144, hy144⟩ : ∃ y_ : List ByteArray, y_ = (x3_1 ++ [(rd_T56 l0 x4_1).f0]) := ⟨_, rfl⟩
            replace H : (copyholdref06_Names.l0 k1 l0 y144 (wrap64 (x4_1 + 1))) = some r := by first | (rw [hy144]; with_reducible exact H) | (have H2_ := (Option.bind_some _ _).symm.trans H; rw [hy144]; with_reducible exact H2_) | (have H2_ := (Option.bind_some _ _).symm.trans H; with_reducible exact H2_) | with_reducible exact H | (rw [hy144]; exact H) | exact H
            have Ny144 := Aside0.mk hy144
            clear hy144
            have H' := Aside0.mk H
            clear H
            have p143 : 0 ≤ (x4_1 : Int) := of_decide_eq_true (by first | (with_reducible assumption) | assumption)
            have q143 : x4_1 < (l0.length : Int) := of_decide_eq_true (by first | (with_reducible assumption) | assumption)
            obtain ⟨ad143, e143, hx143_0, hx143_1⟩ := at_T56 HR0.out x4_1 p143 q143
            cases e143
            replace hx143_0 := (HB.out.cell (World.block_lt_of_cell? w _ hx143_0)).trans hx143_0
            replace hx143_1 := (HB.out.cell (World.block_lt_of_cell? w _ hx143_1)).trans hx143_1
            replace p143 := eq_true p143
            replace q143 := eq_true q143
            go_wp2_with (first | ((with_reducible refine gate_builtin (b := .append) (xs := #[.tmp 11, .tmp 17]) rfl ?_); at_builtin; refine Kd.R_append Kd.string (w0 := w) w.heap.size rfl (.tmp 11) (.tmp 17) 22 9 (.string ⟨#[]⟩) 16 rfl Tryd.underlying22 info9 rfl (by decide) (by omega) u3 x3_1 ((rd_T56 l0 x4_1).f0) [.string ((rd_T56 l0 x4_1).f0)] (fun _ => True) (fun _ => False) rfl rfl ?aP (fun _ hk => hk.elim) ?aF ?aO ?aB ?aS ?aL ?_; (case aP => exact rfl); (case aB => exact (by repeat (first | (with_reducible first | exact HB.out | apply below_alloc | apply pw_below_drewN | apply below_drew1) | exact HB.out))); (case aF => exact (fun _ _ => trivial)); (case aO => exact (by (with_reducible repeat (first | apply Kd.R_alloc | apply Kd.R_drewN | apply Kd.R_drew)); exact HO_3.out)); (case aS => exact (below_size (by repeat (first | (with_reducible first | exact HB.out | apply below_alloc | apply pw_below_drewN | apply below_drew1) | exact HB.out)))); (case aL => have := LMc4.out; omega); intro v145 w5 ho hb hg hat; rw [← Ny144.out] at ho; have n0_ := Aside0.mk (hb); have n1_ := Aside0.mk (ho); clear HB; clear HO_3; have HB := n0_; have HO146 := n1_; clear n0_ n1_; clear ho hb hg hat))
            go_roundg k1
            case measure => have := HK1.out; omega
            case rel => exact ⟨(y144), (wrap64 (x4_1 + 1)), (by first | rfl | (simp; done) | (simp [*]; done)), H', ⟨by have := HK1.out; omega⟩, ⟨by (with_reducible repeat (first | apply Kd.R_alloc | apply Kd.R_drewN | apply Kd.R_drew)); exact HO146.out⟩, ⟨by repeat (first | (with_reducible first | exact HB.out | apply below_alloc | apply pw_below_drewN | apply below_drew1) | exact HB.out)⟩⟩
          · rw [if_neg c4] at H
            exact absurd H (by simp)
        · rw [if_neg c3] at H
          exact absurd H (by simp)
      · rw [if_neg c2] at H
        have c2b0 : decide (x4_1 < (l0.length : Int)) = false := decide_eq_false c2
        clear c2
        obtain rfl := Option.some.inj H
        go_wp2
        go_ret
        exact ⟨_, by first | rfl | (simp [errW_none, errW_some] <;> rfl) | (simp [*, errW_none, errW_some] <;> rfl), by (with_reducible repeat (first | apply Kd.R_alloc | apply Kd.R_drewN | apply Kd.R_drew)); exact HO_3.out, by repeat (first | (with_reducible first | exact HB.out | apply below_alloc | apply pw_below_drewN | apply below_drew1) | exact HB.out)⟩

/-! ### copyholdlaw06_NameRows: function 4 -/
mutual
def copyholdlaw06_NameRows.j0 : Nat → List (S56) → ByteArray → Bool → Bool → Option (Bool)
  | 0, _, _, _, _ => none
  | k + 1, x0, x1, x5, x24 => if x24 = true then (some x5) else ((copyholdref06_Right.f k x0).bind fun t148 => ((name_Split.f x1).bind fun bt149 => ((copyholdref06_Split.f k x1).bind fun bt153 => ((copyholdref01_Strings.f k bt149.1 bt153.1).bind fun t157 => (if t157 = true then (copyholdlaw06_NameRows.j1 k x0 x1 x5 t148 (bt149.2 == bt153.2)) else (copyholdlaw06_NameRows.j1 k x0 x1 x5 t148 false))))))
def copyholdlaw06_NameRows.j1 : Nat → List (S56) → ByteArray → Bool → Bool → Bool → Option (Bool)
  | 0, _, _, _, _, _ => none
  | k + 1, x0, x1, x5, x6, x11 => (name_Right.f k x0).bind fun t158 => (if (t158 != x6) = true then (copyholdlaw06_NameRows.j2 k x0 x1 x5 x6 true) else ((name_Check.f x1).bind fun t159 => ((copyholdref06_Check.f k x1).bind fun t160 => (if t159 = t160 then (copyholdlaw06_NameRows.j2 k x0 x1 x5 x6 (!x11)) else (copyholdlaw06_NameRows.j2 k x0 x1 x5 x6 true)))))
def copyholdlaw06_NameRows.j2 : Nat → List (S56) → ByteArray → Bool → Bool → Bool → Option (Bool)
  | 0, _, _, _, _, _ => none
  | k + 1, x0, x1, x5, x6, x60 => if x60 = true then (some false) else (if x6 = true then ((name_Find.f x0 x1).bind fun bt161 => ((copyholdref06_Find.f k x0 x1).bind fun bt163 => (if x5 = true then (if bt161.1 = bt163.1 then (if (bt161.2 == bt163.2) = true then ((name_Names.f x0).bind fun t165 => ((copyholdref06_Names.f k x0).bind fun t168 => ((copyholdref01_Strings.f k t165 t168).bind fun t171 => (some t171)))) else (some false)) else (some false)) else (some false)))) else (some x5))
end
def copyholdlaw06_NameRows.f (k : Nat) (l0 : List (S56)) (a1 : ByteArray) : Option (Bool) := (copyholdlaw06_shown.f).bind fun t147 => (if (l0.length : Int) > 300 then (copyholdlaw06_NameRows.j0 k l0 a1 t147 true) else (copyholdlaw06_NameRows.j0 k l0 a1 t147 (decide ((a1.size : Int) > 2000))))
theorem copyholdlaw06_NameRows.mono_l : ∀ k, (∀ y0 y1 y2 y3, LeO (copyholdlaw06_NameRows.j0 k y0 y1 y2 y3) (copyholdlaw06_NameRows.j0 (k + 1) y0 y1 y2 y3)) ∧ (∀ y0 y1 y2 y3 y4, LeO (copyholdlaw06_NameRows.j1 k y0 y1 y2 y3 y4) (copyholdlaw06_NameRows.j1 (k + 1) y0 y1 y2 y3 y4)) ∧ (∀ y0 y1 y2 y3 y4, LeO (copyholdlaw06_NameRows.j2 k y0 y1 y2 y3 y4) (copyholdlaw06_NameRows.j2 (k + 1) y0 y1 y2 y3 y4))
  | 0 => ⟨fun _ _ _ _ r h => by simp [copyholdlaw06_NameRows.j0] at h, fun _ _ _ _ _ r h => by simp [copyholdlaw06_NameRows.j1] at h, fun _ _ _ _ _ r h => by simp [copyholdlaw06_NameRows.j2] at h⟩
  | k + 1 => by
    obtain ⟨ih0, ih1, ih2⟩ := copyholdlaw06_NameRows.mono_l k
    refine ⟨?_, ?_, ?_⟩
    · intro y0 y1 y2 y3
      unfold copyholdlaw06_NameRows.j0
      repeat' first
      | (with_reducible exact ih0 _ _ _ _)
      | (with_reducible exact ih1 _ _ _ _ _)
      | (with_reducible exact ih2 _ _ _ _ _)
      | (with_reducible exact copyholdref01_Strings.mono _ _ _)
      | (with_reducible exact copyholdref06_Check.mono _ _)
      | (with_reducible exact copyholdref06_Find.mono _ _ _)
      | (with_reducible exact copyholdref06_Names.mono _ _)
      | (with_reducible exact copyholdref06_Right.mono _ _)
      | (with_reducible exact copyholdref06_Split.mono _ _)
      | (with_reducible exact name_Right.mono _ _)
      | (with_reducible exact LeO.refl _)
      | (with_reducible exact LeO.none _)
      | (with_reducible refine LeO.ite ?_ ?_)
      | (with_reducible refine LeO.bind ?_ (fun _ => ?_))
      | exact ih0 _ _ _ _
      | exact ih1 _ _ _ _ _
      | exact ih2 _ _ _ _ _
      | exact copyholdref01_Strings.mono _ _ _
      | exact copyholdref06_Check.mono _ _
      | exact copyholdref06_Find.mono _ _ _
      | exact copyholdref06_Names.mono _ _
      | exact copyholdref06_Right.mono _ _
      | exact copyholdref06_Split.mono _ _
      | exact name_Right.mono _ _
      | exact LeO.none _
      | refine LeO.ite ?_ ?_
      | refine LeO.bind ?_ (fun _ => ?_)
    · intro y0 y1 y2 y3 y4
      unfold copyholdlaw06_NameRows.j1
      repeat' first
      | (with_reducible exact ih0 _ _ _ _)
      | (with_reducible exact ih1 _ _ _ _ _)
      | (with_reducible exact ih2 _ _ _ _ _)
      | (with_reducible exact copyholdref01_Strings.mono _ _ _)
      | (with_reducible exact copyholdref06_Check.mono _ _)
      | (with_reducible exact copyholdref06_Find.mono _ _ _)
      | (with_reducible exact copyholdref06_Names.mono _ _)
      | (with_reducible exact copyholdref06_Right.mono _ _)
      | (with_reducible exact copyholdref06_Split.mono _ _)
      | (with_reducible exact name_Right.mono _ _)
      | (with_reducible exact LeO.refl _)
      | (with_reducible exact LeO.none _)
      | (with_reducible refine LeO.ite ?_ ?_)
      | (with_reducible refine LeO.bind ?_ (fun _ => ?_))
      | exact ih0 _ _ _ _
      | exact ih1 _ _ _ _ _
      | exact ih2 _ _ _ _ _
      | exact copyholdref01_Strings.mono _ _ _
      | exact copyholdref06_Check.mono _ _
      | exact copyholdref06_Find.mono _ _ _
      | exact copyholdref06_Names.mono _ _
      | exact copyholdref06_Right.mono _ _
      | exact copyholdref06_Split.mono _ _
      | exact name_Right.mono _ _
      | exact LeO.none _
      | refine LeO.ite ?_ ?_
      | refine LeO.bind ?_ (fun _ => ?_)
    · intro y0 y1 y2 y3 y4
      unfold copyholdlaw06_NameRows.j2
      repeat' first
      | (with_reducible exact ih0 _ _ _ _)
      | (with_reducible exact ih1 _ _ _ _ _)
      | (with_reducible exact ih2 _ _ _ _ _)
      | (with_reducible exact copyholdref01_Strings.mono _ _ _)
      | (with_reducible exact copyholdref06_Check.mono _ _)
      | (with_reducible exact copyholdref06_Find.mono _ _ _)
      | (with_reducible exact copyholdref06_Names.mono _ _)
      | (with_reducible exact copyholdref06_Right.mono _ _)
      | (with_reducible exact copyholdref06_Split.mono _ _)
      | (with_reducible exact name_Right.mono _ _)
      | (with_reducible exact LeO.refl _)
      | (with_reducible exact LeO.none _)
      | (with_reducible refine LeO.ite ?_ ?_)
      | (with_reducible refine LeO.bind ?_ (fun _ => ?_))
      | exact ih0 _ _ _ _
      | exact ih1 _ _ _ _ _
      | exact ih2 _ _ _ _ _
      | exact copyholdref01_Strings.mono _ _ _
      | exact copyholdref06_Check.mono _ _
      | exact copyholdref06_Find.mono _ _ _
      | exact copyholdref06_Names.mono _ _
      | exact copyholdref06_Right.mono _ _
      | exact copyholdref06_Split.mono _ _
      | exact name_Right.mono _ _
      | exact LeO.none _
      | refine LeO.ite ?_ ?_
      | refine LeO.bind ?_ (fun _ => ?_)
theorem copyholdlaw06_NameRows.mono : ∀ a0 a1 k, LeO (copyholdlaw06_NameRows.f k a0 a1) (copyholdlaw06_NameRows.f (k + 1) a0 a1) := by
  intro a0 a1 k
  obtain ⟨ih0, ih1, ih2⟩ := copyholdlaw06_NameRows.mono_l k
  unfold copyholdlaw06_NameRows.f
  repeat' first
      | (with_reducible exact ih0 _ _ _ _)
      | (with_reducible exact ih1 _ _ _ _ _)
      | (with_reducible exact ih2 _ _ _ _ _)
      | (with_reducible exact copyholdref01_Strings.mono _ _ _)
      | (with_reducible exact copyholdref06_Check.mono _ _)
      | (with_reducible exact copyholdref06_Find.mono _ _ _)
      | (with_reducible exact copyholdref06_Names.mono _ _)
      | (with_reducible exact copyholdref06_Right.mono _ _)
      | (with_reducible exact copyholdref06_Split.mono _ _)
      | (with_reducible exact name_Right.mono _ _)
      | (with_reducible exact LeO.refl _)
      | (with_reducible exact LeO.none _)
      | (with_reducible refine LeO.ite ?_ ?_)
      | (with_reducible refine LeO.bind ?_ (fun _ => ?_))
      | exact ih0 _ _ _ _
      | exact ih1 _ _ _ _ _
      | exact ih2 _ _ _ _ _
      | exact copyholdref01_Strings.mono _ _ _
      | exact copyholdref06_Check.mono _ _
      | exact copyholdref06_Find.mono _ _ _
      | exact copyholdref06_Names.mono _ _
      | exact copyholdref06_Right.mono _ _
      | exact copyholdref06_Split.mono _ _
      | exact name_Right.mono _ _
      | exact LeO.none _
      | refine LeO.ite ?_ ?_
      | refine LeO.bind ?_ (fun _ => ?_)
set_option maxHeartbeats 8000000 in
set_option maxRecDepth 100000 in
theorem copyholdlaw06_NameRows.calls (k : Nat) (A0 : Option Addr) (c0 : Nat) (l0 : List (S56)) (a1 : ByteArray) (r : Bool) (w : World) (hr0 : Kd.C k56 w A0 l0.length l0) (hc0 : l0.length ≤ c0) (h : copyholdlaw06_NameRows.f k l0 a1 = some r) :
    Calls Tryd.prog 4 #[.slice A0 l0.length c0, .string a1] w fun e w' => e = .returned (.bool r) ∧ Below w.heap.size w w' := by
  have HR0 := Aside0.mk hr0
  have HC0 := Aside0.mk hc0
  clear hr0 hc0
  have HB := Aside0.mk (Below.refl w.heap.size w)
  have H : ((copyholdlaw06_shown.f).bind fun t147 => (if (l0.length : Int) > 300 then (copyholdlaw06_NameRows.j0 k l0 a1 t147 true) else (copyholdlaw06_NameRows.j0 k l0 a1 t147 (decide ((a1.size : Int) > 2000))))) = some r := h
  clear h
  replace H := Option.bind_eq_some_iff.mp H
  obtain ⟨t147, A30, H⟩ := H
  replace H : (if (l0.length : Int) > 300 then (copyholdlaw06_NameRows.j0 k l0 a1 t147 true) else (copyholdlaw06_NameRows.j0 k l0 a1 t147 (decide ((a1.size : Int) > 2000)))) = some r := H
  have A3 := Aside0.mk A30
  clear A30
  have HC4 := Aside0.mk H
  clear H
  go_enter Tryd.func4, Tryd.ntmps4
  go_upto_region 2 with (first | ((with_reducible refine gate_callee (f := 10) rfl ?_); refine goesL_ (some 16) rfl rfl Tryd.func10 (by kernel_rfl) rfl #[] rfl (by (try simp only [List.map_toArray, List.map_cons, List.map_nil]); first | done | rfl | (simp only [List.length_drop, List.length_take]; rfl)) ?_; (with_reducible refine (copyholdlaw06_shown.calls  t147 _ A3.out).mono ?_); rintro e w5 ⟨rfl, hb⟩; refine ⟨_, rfl, ?_⟩; have n0_ := Aside0.mk (below_step (by repeat (first | (with_reducible first | exact HB.out | apply below_alloc | apply pw_below_drewN | apply below_drew1) | exact HB.out)) hb); clear HB; have HB := n0_; clear n0_; (try clear hb); (try clear hb2); (try clear hk); (try clear hi)))
  (try simp only [Act.put, List.setIfInBounds_toArray, List.set_cons_zero, List.set_cons_succ])
  go_cut [24] (fun v24 wc => ∃ (kq : Nat) (x24_3 : Bool), v24 = .bool x24_3 ∧ Aside0 (copyholdlaw06_NameRows.j0 kq l0 a1 t147 x24_3 = some r) ∧ Aside0 (kq ≤ k) ∧ Aside0 (Below w.heap.size w wc))
  case first =>
    have H := HC4.out
    clear HC4
    by_cases c6 : (l0.length : Int) > 300
    · rw [if_pos c6] at H
      have c6b0 : decide (300 < (l0.length : Int)) = true := decide_eq_true c6
      have c6b1 : decide (300 < l0.length) = true := decide_eq_true (by omega)
      clear c6
      (first | rw [c6b0] | (simp only [i64_w, i32_w]; rw [c6b0]) | skip)
      have H' := Aside0.mk H
      clear H
      go_wp2
      go_meet
      case rel => exact ⟨_, (true), (by first | rfl | (simp; done) | (simp [*]; done)), H', ⟨by first | omega | exact Nat.le_refl _⟩, ⟨by repeat (first | (with_reducible first | exact HB.out | apply below_alloc | apply pw_below_drewN | apply below_drew1) | exact HB.out)⟩⟩
    · rw [if_neg c6] at H
      have c6b0 : decide (300 < (l0.length : Int)) = false := decide_eq_false c6
      have c6b1 : decide (300 < l0.length) = false := decide_eq_false (by omega)
      clear c6
      (first | rw [c6b0] | (simp only [i64_w, i32_w]; rw [c6b0]) | skip)
      have H' := Aside0.mk H
      clear H
      go_wp2
      go_meet
      case rel => exact ⟨_, (decide ((a1.size : Int) > 2000)), (by first | rfl | (simp; done) | (simp [*]; done)), H', ⟨by first | omega | exact Nat.le_refl _⟩, ⟨by repeat (first | (with_reducible first | exact HB.out | apply below_alloc | apply pw_below_drewN | apply below_drew1) | exact HB.out)⟩⟩
  case rest =>
    clear HC4
    try clear c1
    try clear p2
    try clear c4
    try clear c6
    try clear c6b0
    try clear c6b1
    obtain ⟨kq, x24_3, rfl, HA, HJ3, HB⟩ := hcut
    cases kq with
    | zero => exact absurd HA.out (by simp [copyholdlaw06_NameRows.j0])
    | succ kj3 =>
      have H := HA.out
      clear HA
      simp only [copyholdlaw06_NameRows.j0] at H
      by_cases c7 : x24_3 = true
      · subst c7
        have H1 : (some t147) = some r := by rw [if_pos rfl] at H; exact H
        clear H
        have H := H1
        clear H1
        obtain rfl := Option.some.inj H
        go_wp2
        go_ret
        exact ⟨by first | rfl | (simp [errW_none, errW_some] <;> rfl) | (simp [*, errW_none, errW_some] <;> rfl), by repeat (first | (with_reducible first | exact HB.out | apply below_alloc | apply pw_below_drewN | apply below_drew1) | exact HB.out)⟩
      · replace c7 := Bool.eq_false_iff.mpr c7
        subst c7
        have H1 : ((copyholdref06_Right.f kj3 l0).bind fun t148 => ((name_Split.f a1).bind fun bt149 => ((copyholdref06_Split.f kj3 a1).bind fun bt153 => ((copyholdref01_Strings.f kj3 bt149.1 bt153.1).bind fun t157 => (if t157 = true then (copyholdlaw06_NameRows.j1 kj3 l0 a1 t147 t148 (bt149.2 == bt153.2)) else (copyholdlaw06_NameRows.j1 kj3 l0 a1 t147 t148 false)))))) = some r := by rw [if_neg (show ¬ (false = true) by decide)] at H; exact H
        clear H
        have H := H1
        clear H1
        replace H := Option.bind_eq_some_iff.mp H
        obtain ⟨t148, A80, H⟩ := H
        replace H : ((name_Split.f a1).bind fun bt149 => ((copyholdref06_Split.f kj3 a1).bind fun bt153 => ((copyholdref01_Strings.f kj3 bt149.1 bt153.1).bind fun t157 => (if t157 = true then (copyholdlaw06_NameRows.j1 kj3 l0 a1 t147 t148 (bt149.2 == bt153.2)) else (copyholdlaw06_NameRows.j1 kj3 l0 a1 t147 t148 false))))) = some r := H
        have A8 := Aside0.mk A80
        clear A80
        replace H := Option.bind_eq_some_iff.mp H
        obtain ⟨⟨t149, t150⟩, A90, H⟩ := H
        replace H : ((copyholdref06_Split.f kj3 a1).bind fun bt153 => ((copyholdref01_Strings.f kj3 t149 bt153.1).bind fun t157 => (if t157 = true then (copyholdlaw06_NameRows.j1 kj3 l0 a1 t147 t148 (t150 == bt153.2)) else (copyholdlaw06_NameRows.j1 kj3 l0 a1 t147 t148 false)))) = some r := H
        have A9 := Aside0.mk A90
        clear A90
        replace H := Option.bind_eq_some_iff.mp H
        obtain ⟨⟨t153, t154⟩, A100, H⟩ := H
        replace H : ((copyholdref01_Strings.f kj3 t149 t153).bind fun t157 => (if t157 = true then (copyholdlaw06_NameRows.j1 kj3 l0 a1 t147 t148 (t150 == t154)) else (copyholdlaw06_NameRows.j1 kj3 l0 a1 t147 t148 false))) = some r := H
        have A10 := Aside0.mk A100
        clear A100
        have HC11 := Aside0.mk H
        clear H
        go_upto_region 7 with (first | ((with_reducible refine gate_callee (f := 14) rfl ?_); refine goesL_ (some 27) rfl rfl Tryd.func14 (by kernel_rfl) rfl #[.slice A0 l0.length c0] rfl (by (try simp only [List.map_toArray, List.map_cons, List.map_nil]); first | done | rfl | (simp only [List.length_drop, List.length_take]; rfl)) ?_; (with_reducible refine (copyholdref06_Right.calls kj3 _ _ l0 t148 _ ?side1 ?side2 A8.out).mono ?_); (case side1 => repeat (first | exact (Kd.C_below HR0.out HB.out) | (with_reducible refine Kd.C_alloc ?_ _) | (with_reducible refine Kd.C_drewN ?_ _) | (with_reducible refine Kd.C_drew ?_))); (case side2 => exact HC0.out); rintro e w' ⟨rfl, ⟨nd, rfl⟩⟩; refine ⟨_, rfl, ?_⟩) | ((with_reducible refine gate_callee (f := 12) rfl ?_); refine goesL_ (some 30) rfl rfl Tryd.func12 (by kernel_rfl) rfl #[.string a1] rfl (by (try simp only [List.map_toArray, List.map_cons, List.map_nil]); first | done | rfl | (simp only [List.length_drop, List.length_take]; rfl)) ?_; (with_reducible refine (name_Split.calls a1 t149 t150 _ A9.out).mono ?_); rintro e w12 ⟨v151, rfl, ho0, hb⟩; refine ⟨_, rfl, ?_⟩; have n0_ := Aside0.mk (Kd.R_lower ho0 (below_size (by repeat (first | (with_reducible first | exact HB.out | apply below_alloc | apply pw_below_drewN | apply below_drew1) | exact HB.out)))); have n1_ := Aside0.mk (below_step (by repeat (first | (with_reducible first | exact HB.out | apply below_alloc | apply pw_below_drewN | apply below_drew1) | exact HB.out)) hb); clear HB; have HO152 := n0_; have HB := n1_; clear n0_ n1_; (try clear hb); (try clear hb2); (try clear hk); (try clear hi); (try clear ho0)) | ((with_reducible refine gate_callee (f := 15) rfl ?_); refine goesL_ (some 35) rfl rfl Tryd.func15 (by kernel_rfl) rfl #[.string a1] rfl (by (try simp only [List.map_toArray, List.map_cons, List.map_nil]); first | done | rfl | (simp only [List.length_drop, List.length_take]; rfl)) ?_; (with_reducible refine (copyholdref06_Split.calls kj3 a1 t153 t154 _ A10.out).mono ?_); rintro e w13 ⟨v155, rfl, ho0, hb⟩; refine ⟨_, rfl, ?_⟩; have n0_ := Aside0.mk (Kd.R_elder' (by (with_reducible repeat (first | apply Kd.R_alloc | apply Kd.R_drewN | apply Kd.R_drew)); exact HO152.out) (Kd.R_base ho0) hb); have n1_ := Aside0.mk (Kd.R_lower (Kd.R_new' ho0 (Kd.R_lt (by (with_reducible repeat (first | apply Kd.R_alloc | apply Kd.R_drewN | apply Kd.R_drew)); exact HO152.out))) (below_size (by repeat (first | (with_reducible first | exact HB.out | apply below_alloc | apply pw_below_drewN | apply below_drew1) | exact HB.out)))); have n2_ := Aside0.mk (below_step (by repeat (first | (with_reducible first | exact HB.out | apply below_alloc | apply pw_below_drewN | apply below_drew1) | exact HB.out)) hb); clear HO152; clear HB; have HO152 := n0_; have HO156 := n1_; have HB := n2_; clear n0_ n1_ n2_; (try clear hb); (try clear hb2); (try clear hk); (try clear hi); (try clear ho0)))
        (try simp only [Act.put, List.setIfInBounds_toArray, List.set_cons_zero, List.set_cons_succ])
        go_cut [11] (fun v11 wc => ∃ (kq : Nat) (x11_10 : Bool), v11 = .bool x11_10 ∧ Aside0 (copyholdlaw06_NameRows.j1 kq l0 a1 t147 t148 x11_10 = some r) ∧ Aside0 (kq ≤ kj3) ∧ Aside0 (Below w.heap.size w wc))
        case first =>
          have H := HC11.out
          clear HC11
          replace H := Option.bind_eq_some_iff.mp H
          obtain ⟨t157, A140, H⟩ := H
          replace H : (if t157 = true then (copyholdlaw06_NameRows.j1 kj3 l0 a1 t147 t148 (t150 == t154)) else (copyholdlaw06_NameRows.j1 kj3 l0 a1 t147 t148 false)) = some r := H
          have A14 := Aside0.mk A140
          clear A140
          by_cases c15 : t157 = true
          · subst c15
            have H1 : (copyholdlaw06_NameRows.j1 kj3 l0 a1 t147 t148 (t150 == t154)) = some r := by rw [if_pos rfl] at H; exact H
            clear H
            have H := H1
            clear H1
            have H' := Aside0.mk H
            clear H
            obtain ⟨Ao16, co16, eo16⟩ := Kd.R_slice HO152.out
            subst eo16
            obtain ⟨Ao17, co17, eo17⟩ := Kd.R_slice HO156.out
            subst eo17
            go_wp2_with (first | ((with_reducible refine gate_callee (f := 13) rfl ?_); refine goesL_ (some 40) rfl rfl Tryd.func13 (by kernel_rfl) rfl #[.slice Ao16 t149.length co16, .slice Ao17 t153.length co17] rfl (by (try simp only [List.map_toArray, List.map_cons, List.map_nil]); first | done | rfl | (simp only [List.length_drop, List.length_take]; rfl)) ?_; (with_reducible refine (copyholdref01_Strings.calls kj3 _ _ t149 _ _ t153 true _ ?side1 ?side2 ?side3 ?side4 A14.out).mono ?_); (case side1 => repeat (first | exact (Kd.R_reads' HO152.out).2.2 | (with_reducible refine Kd.C_alloc ?_ _) | (with_reducible refine Kd.C_drewN ?_ _) | (with_reducible refine Kd.C_drew ?_))); (case side2 => exact (Kd.R_reads' HO152.out).2.1); (case side3 => repeat (first | exact (Kd.R_reads' HO156.out).2.2 | (with_reducible refine Kd.C_alloc ?_ _) | (with_reducible refine Kd.C_drewN ?_ _) | (with_reducible refine Kd.C_drew ?_))); (case side4 => exact (Kd.R_reads' HO156.out).2.1); rintro e w' ⟨rfl, ⟨nd, rfl⟩⟩; refine ⟨_, rfl, ?_⟩))
            go_meet
            case rel => exact ⟨_, ((t150 == t154)), (by first | rfl | (simp; done) | (simp [*]; done)), H', ⟨by have := HJ3.out; first | omega | exact Nat.le_refl _⟩, ⟨by repeat (first | (with_reducible first | exact HB.out | apply below_alloc | apply pw_below_drewN | apply below_drew1) | exact HB.out)⟩⟩
          · replace c15 := Bool.eq_false_iff.mpr c15
            subst c15
            have H1 : (copyholdlaw06_NameRows.j1 kj3 l0 a1 t147 t148 false) = some r := by rw [if_neg (show ¬ (false = true) by decide)] at H; exact H
            clear H
            have H := H1
            clear H1
            have H' := Aside0.mk H
            clear H
            obtain ⟨Ao18, co18, eo18⟩ := Kd.R_slice HO152.out
            subst eo18
            obtain ⟨Ao19, co19, eo19⟩ := Kd.R_slice HO156.out
            subst eo19
            go_wp2_with (first | ((with_reducible refine gate_callee (f := 13) rfl ?_); refine goesL_ (some 40) rfl rfl Tryd.func13 (by kernel_rfl) rfl #[.slice Ao18 t149.length co18, .slice Ao19 t153.length co19] rfl (by (try simp only [List.map_toArray, List.map_cons, List.map_nil]); first | done | rfl | (simp only [List.length_drop, List.length_take]; rfl)) ?_; (with_reducible refine (copyholdref01_Strings.calls kj3 _ _ t149 _ _ t153 false _ ?side1 ?side2 ?side3 ?side4 A14.out).mono ?_); (case side1 => repeat (first | exact (Kd.R_reads' HO152.out).2.2 | (with_reducible refine Kd.C_alloc ?_ _) | (with_reducible refine Kd.C_drewN ?_ _) | (with_reducible refine Kd.C_drew ?_))); (case side2 => exact (Kd.R_reads' HO152.out).2.1); (case side3 => repeat (first | exact (Kd.R_reads' HO156.out).2.2 | (with_reducible refine Kd.C_alloc ?_ _) | (with_reducible refine Kd.C_drewN ?_ _) | (with_reducible refine Kd.C_drew ?_))); (case side4 => exact (Kd.R_reads' HO156.out).2.1); rintro e w' ⟨rfl, ⟨nd, rfl⟩⟩; refine ⟨_, rfl, ?_⟩))
            go_meet
            case rel => exact ⟨_, (false), (by first | rfl | (simp; done) | (simp [*]; done)), H', ⟨by have := HJ3.out; first | omega | exact Nat.le_refl _⟩, ⟨by repeat (first | (with_reducible first | exact HB.out | apply below_alloc | apply pw_below_drewN | apply below_drew1) | exact HB.out)⟩⟩
        case rest =>
          clear HC11
          try clear c1
          try clear p2
          try clear c4
          try clear c6
          try clear c6b0
          try clear c6b1
          try clear c7
          try clear c10
          try clear c12
          try clear c13
          try clear c14
          try clear c15
          try clear p2
          obtain ⟨kq, x11_10, rfl, HA, HJ10, HB⟩ := hcut
          cases kq with
          | zero => exact absurd HA.out (by simp [copyholdlaw06_NameRows.j1])
          | succ kj10 =>
            have H := HA.out
            clear HA
            simp only [copyholdlaw06_NameRows.j1] at H
            have HC20 := Aside0.mk H
            clear H
            go_upto_region 8 with (fail)
            go_cut [60] (fun v60 wc => ∃ (kq : Nat) (x60_19 : Bool), v60 = .bool x60_19 ∧ Aside0 (copyholdlaw06_NameRows.j2 kq l0 a1 t147 t148 x60_19 = some r) ∧ Aside0 (kq ≤ kj10) ∧ Aside0 (Below w.heap.size w wc))
            case first =>
              have H := HC20.out
              clear HC20
              replace H := Option.bind_eq_some_iff.mp H
              obtain ⟨t158, A210, H⟩ := H
              replace H : (if (t158 != t148) = true then (copyholdlaw06_NameRows.j2 kj10 l0 a1 t147 t148 true) else ((name_Check.f a1).bind fun t159 => ((copyholdref06_Check.f kj10 a1).bind fun t160 => (if t159 = t160 then (copyholdlaw06_NameRows.j2 kj10 l0 a1 t147 t148 (!x11_10)) else (copyholdlaw06_NameRows.j2 kj10 l0 a1 t147 t148 true))))) = some r := H
              have A21 := Aside0.mk A210
              clear A210
              by_cases c22 : (t158 != t148) = true
              · rw [if_pos c22] at H
                have c22b0 : (t158 != t148) = true := c22
                (try (have c22b1 : decide (t158 = t148) = false := by simpa using c22))
                (try (have c22b2 : (t158 == t148) = false := by simpa using c22))
                (try (have c22b3 : ¬ (t158 = t148) := by simpa using c22))
                clear c22
                (first | rw [c22b0] | (simp only [i64_w, i32_w]; rw [c22b0]) | skip)
                have H' := Aside0.mk H
                clear H
                go_wp2_with (first | ((with_reducible refine gate_callee (f := 16) rfl ?_); refine goesL_ (some 47) rfl rfl Tryd.func16 (by kernel_rfl) rfl #[.slice A0 l0.length c0] rfl (by (try simp only [List.map_toArray, List.map_cons, List.map_nil]); first | done | rfl | (simp only [List.length_drop, List.length_take]; rfl)) ?_; (with_reducible refine (name_Right.calls kj10 _ _ l0 t158 _ ?side1 ?side2 A21.out).mono ?_); (case side1 => repeat (first | exact (Kd.C_below HR0.out HB.out) | (with_reducible refine Kd.C_alloc ?_ _) | (with_reducible refine Kd.C_drewN ?_ _) | (with_reducible refine Kd.C_drew ?_))); (case side2 => exact HC0.out); rintro e w23 ⟨rfl, hb⟩; refine ⟨_, rfl, ?_⟩; have n0_ := Aside0.mk (below_step (by repeat (first | (with_reducible first | exact HB.out | apply below_alloc | apply pw_below_drewN | apply below_drew1) | exact HB.out)) hb); clear HB; have HB := n0_; clear n0_; (try clear hb); (try clear hb2); (try clear hk); (try clear hi)))
                go_meet
                case rel => exact ⟨_, (true), (by first | rfl | (simp; done) | (simp [*]; done)), H', ⟨by have := HJ3.out; have := HJ10.out; first | omega | exact Nat.le_refl _⟩, ⟨by repeat (first | (with_reducible first | exact HB.out | apply below_alloc | apply pw_below_drewN | apply below_drew1) | exact HB.out)⟩⟩
              · rw [if_neg c22] at H
                have c22b0 : (t158 != t148) = false := by simpa using c22
                (try (have c22b1 : decide (t158 = t148) = true := by simpa using c22))
                (try (have c22b2 : (t158 == t148) = true := by simpa using c22))
                clear c22
                (first | rw [c22b0] | (simp only [i64_w, i32_w]; rw [c22b0]) | skip)
                replace H := Option.bind_eq_some_iff.mp H
                obtain ⟨t159, A240, H⟩ := H
                replace H : ((copyholdref06_Check.f kj10 a1).bind fun t160 => (if t159 = t160 then (copyholdlaw06_NameRows.j2 kj10 l0 a1 t147 t148 (!x11_10)) else (copyholdlaw06_NameRows.j2 kj10 l0 a1 t147 t148 true))) = some r := H
                have A24 := Aside0.mk A240
                clear A240
                replace H := Option.bind_eq_some_iff.mp H
                obtain ⟨t160, A250, H⟩ := H
                replace H : (if t159 = t160 then (copyholdlaw06_NameRows.j2 kj10 l0 a1 t147 t148 (!x11_10)) else (copyholdlaw06_NameRows.j2 kj10 l0 a1 t147 t148 true)) = some r := H
                have A25 := Aside0.mk A250
                clear A250
                by_cases c26 : t159 = t160
                · rw [if_pos c26] at H
                  have c26b0 : (t159 == t160) = true := beq_iff_eq.mpr c26
                  have c26b1 : (t159 != t160) = false := bne_eq_false_iff_eq.mpr c26
                  clear c26
                  have H' := Aside0.mk H
                  clear H
                  go_wp2_with (first | ((with_reducible refine gate_callee (f := 16) rfl ?_); refine goesL_ (some 47) rfl rfl Tryd.func16 (by kernel_rfl) rfl #[.slice A0 l0.length c0] rfl (by (try simp only [List.map_toArray, List.map_cons, List.map_nil]); first | done | rfl | (simp only [List.length_drop, List.length_take]; rfl)) ?_; (with_reducible refine (name_Right.calls kj10 _ _ l0 t158 _ ?side1 ?side2 A21.out).mono ?_); (case side1 => repeat (first | exact (Kd.C_below HR0.out HB.out) | (with_reducible refine Kd.C_alloc ?_ _) | (with_reducible refine Kd.C_drewN ?_ _) | (with_reducible refine Kd.C_drew ?_))); (case side2 => exact HC0.out); rintro e w27 ⟨rfl, hb⟩; refine ⟨_, rfl, ?_⟩; have n0_ := Aside0.mk (below_step (by repeat (first | (with_reducible first | exact HB.out | apply below_alloc | apply pw_below_drewN | apply below_drew1) | exact HB.out)) hb); clear HB; have HB := n0_; clear n0_; (try clear hb); (try clear hb2); (try clear hk); (try clear hi)) | (go_at_call 17; (with_reducible refine (name_Check.calls a1 t159 _ A24.out).mono ?_); rintro e w' ⟨rfl, ⟨nd, rfl⟩⟩) | (go_at_call 11; (with_reducible refine (copyholdref06_Check.calls kj10 a1 t160 _ A25.out).mono ?_); rintro e w' ⟨rfl, ⟨nd, rfl⟩⟩))
                  go_meet
                  case rel => exact ⟨_, (!x11_10), (by first | rfl | (simp; done) | (simp [*]; done)), H', ⟨by have := HJ3.out; have := HJ10.out; first | omega | exact Nat.le_refl _⟩, ⟨by repeat (first | (with_reducible first | exact HB.out | apply below_alloc | apply pw_below_drewN | apply below_drew1) | exact HB.out)⟩⟩
                · rw [if_neg c26] at H
                  have c26b0 : (t159 == t160) = false := beq_eq_false_iff_ne.mpr c26
                  have c26b1 : (t159 != t160) = true := bne_iff_ne.mpr c26
                  have H' := Aside0.mk H
                  clear H
                  go_wp2_with (first | ((with_reducible refine gate_callee (f := 16) rfl ?_); refine goesL_ (some 47) rfl rfl Tryd.func16 (by kernel_rfl) rfl #[.slice A0 l0.length c0] rfl (by (try simp only [List.map_toArray, List.map_cons, List.map_nil]); first | done | rfl | (simp only [List.length_drop, List.length_take]; rfl)) ?_; (with_reducible refine (name_Right.calls kj10 _ _ l0 t158 _ ?side1 ?side2 A21.out).mono ?_); (case side1 => repeat (first | exact (Kd.C_below HR0.out HB.out) | (with_reducible refine Kd.C_alloc ?_ _) | (with_reducible refine Kd.C_drewN ?_ _) | (with_reducible refine Kd.C_drew ?_))); (case side2 => exact HC0.out); rintro e w28 ⟨rfl, hb⟩; refine ⟨_, rfl, ?_⟩; have n0_ := Aside0.mk (below_step (by repeat (first | (with_reducible first | exact HB.out | apply below_alloc | apply pw_below_drewN | apply below_drew1) | exact HB.out)) hb); clear HB; have HB := n0_; clear n0_; (try clear hb); (try clear hb2); (try clear hk); (try clear hi)) | (go_at_call 17; (with_reducible refine (name_Check.calls a1 t159 _ A24.out).mono ?_); rintro e w' ⟨rfl, ⟨nd, rfl⟩⟩) | (go_at_call 11; (with_reducible refine (copyholdref06_Check.calls kj10 a1 t160 _ A25.out).mono ?_); rintro e w' ⟨rfl, ⟨nd, rfl⟩⟩))
                  go_meet
                  case rel => exact ⟨_, (true), (by first | rfl | (simp; done) | (simp [*]; done)), H', ⟨by have := HJ3.out; have := HJ10.out; first | omega | exact Nat.le_refl _⟩, ⟨by repeat (first | (with_reducible first | exact HB.out | apply below_alloc | apply pw_below_drewN | apply below_drew1) | exact HB.out)⟩⟩
            case rest =>
              clear HC20
              try clear c1
              try clear c2
              try clear p2
              try clear c4
              try clear c6
              try clear c6b0
              try clear c6b1
              try clear c7
              try clear c10
              try clear c12
              try clear c13
              try clear c14
              try clear c15
              try clear c16
              try clear c22
              try clear c22b0
              try clear c22b1
              try clear c22b2
              try clear c26
              try clear c26b0
              try clear c26b1
              try clear p2
              obtain ⟨kq, x60_19, rfl, HA, HJ19, HB⟩ := hcut
              cases kq with
              | zero => exact absurd HA.out (by simp [copyholdlaw06_NameRows.j2])
              | succ kj19 =>
                have H := HA.out
                clear HA
                simp only [copyholdlaw06_NameRows.j2] at H
                by_cases c29 : x60_19 = true
                · subst c29
                  have H1 : (some false) = some r := by rw [if_pos rfl] at H; exact H
                  clear H
                  have H := H1
                  clear H1
                  obtain rfl := Option.some.inj H
                  go_wp2
                  go_ret
                  exact ⟨by first | rfl | (simp [errW_none, errW_some] <;> rfl) | (simp [*, errW_none, errW_some] <;> rfl), by repeat (first | (with_reducible first | exact HB.out | apply below_alloc | apply pw_below_drewN | apply below_drew1) | exact HB.out)⟩
                · replace c29 := Bool.eq_false_iff.mpr c29
                  subst c29
                  have H1 : (if t148 = true then ((name_Find.f l0 a1).bind fun bt161 => ((copyholdref06_Find.f kj19 l0 a1).bind fun bt163 => (if t147 = true then (if bt161.1 = bt163.1 then (if (bt161.2 == bt163.2) = true then ((name_Names.f l0).bind fun t165 => ((copyholdref06_Names.f kj19 l0).bind fun t168 => ((copyholdref01_Strings.f kj19 t165 t168).bind fun t171 => (some t171)))) else (some false)) else (some false)) else (some false)))) else (some t147)) = some r := by rw [if_neg (show ¬ (false = true) by decide)] at H; exact H
                  clear H
                  have H := H1
                  clear H1
                  by_cases c30 : t148 = true
                  · subst c30
                    have H1 : ((name_Find.f l0 a1).bind fun bt161 => ((copyholdref06_Find.f kj19 l0 a1).bind fun bt163 => (if t147 = true then (if bt161.1 = bt163.1 then (if (bt161.2 == bt163.2) = true then ((name_Names.f l0).bind fun t165 => ((copyholdref06_Names.f kj19 l0).bind fun t168 => ((copyholdref01_Strings.f kj19 t165 t168).bind fun t171 => (some t171)))) else (some false)) else (some false)) else (some false)))) = some r := by rw [if_pos rfl] at H; exact H
                    clear H
                    have H := H1
                    clear H1
                    replace H := Option.bind_eq_some_iff.mp H
                    obtain ⟨⟨t161, t162⟩, A310, H⟩ := H
                    replace H : ((copyholdref06_Find.f kj19 l0 a1).bind fun bt163 => (if t147 = true then (if t161 = bt163.1 then (if (t162 == bt163.2) = true then ((name_Names.f l0).bind fun t165 => ((copyholdref06_Names.f kj19 l0).bind fun t168 => ((copyholdref01_Strings.f kj19 t165 t168).bind fun t171 => (some t171)))) else (some false)) else (some false)) else (some false))) = some r := H
                    have A31 := Aside0.mk A310
                    clear A310
                    replace H := Option.bind_eq_some_iff.mp H
                    obtain ⟨⟨t163, t164⟩, A320, H⟩ := H
                    replace H : (if t147 = true then (if t161 = t163 then (if (t162 == t164) = true then ((name_Names.f l0).bind fun t165 => ((copyholdref06_Names.f kj19 l0).bind fun t168 => ((copyholdref01_Strings.f kj19 t165 t168).bind fun t171 => (some t171)))) else (some false)) else (some false)) else (some false)) = some r := H
                    have A32 := Aside0.mk A320
                    clear A320
                    by_cases c33 : t147 = true
                    · subst c33
                      have H1 : (if t161 = t163 then (if (t162 == t164) = true then ((name_Names.f l0).bind fun t165 => ((copyholdref06_Names.f kj19 l0).bind fun t168 => ((copyholdref01_Strings.f kj19 t165 t168).bind fun t171 => (some t171)))) else (some false)) else (some false)) = some r := by rw [if_pos rfl] at H; exact H
                      clear H
                      have H := H1
                      clear H1
                      by_cases c34 : t161 = t163
                      · rw [if_pos c34] at H
                        have c34b0 : (t161 == t163) = true := beq_iff_eq.mpr c34
                        have c34b1 : (t161 != t163) = false := bne_eq_false_iff_eq.mpr c34
                        clear c34
                        by_cases c35 : (t162 == t164) = true
                        · rw [if_pos c35] at H
                          have c35b0 : (t162 == t164) = true := c35
                          (try (have c35b1 : decide (t162 = t164) = true := by simpa using c35))
                          (try (have c35b2 : (t162 == t164) = true := by simpa using c35))
                          clear c35
                          replace H := Option.bind_eq_some_iff.mp H
                          obtain ⟨t165, A360, H⟩ := H
                          replace H : ((copyholdref06_Names.f kj19 l0).bind fun t168 => ((copyholdref01_Strings.f kj19 t165 t168).bind fun t171 => (some t171))) = some r := H
                          have A36 := Aside0.mk A360
                          clear A360
                          replace H := Option.bind_eq_some_iff.mp H
                          obtain ⟨t168, A370, H⟩ := H
                          replace H : ((copyholdref01_Strings.f kj19 t165 t168).bind fun t171 => (some t171)) = some r := H
                          have A37 := Aside0.mk A370
                          clear A370
                          replace H := Option.bind_eq_some_iff.mp H
                          obtain ⟨t171, A380, H⟩ := H
                          replace H : (some t171) = some r := H
                          have A38 := Aside0.mk A380
                          clear A380
                          obtain rfl := Option.some.inj H
                          go_wp2_with (first | ((with_reducible refine gate_callee (f := 18) rfl ?_); refine goesL_ (some 67) rfl rfl Tryd.func18 (by kernel_rfl) rfl #[.slice A0 l0.length c0, .string a1] rfl (by (try simp only [List.map_toArray, List.map_cons, List.map_nil]); first | done | rfl | (simp only [List.length_drop, List.length_take]; rfl)) ?_; (with_reducible refine (name_Find.calls _ _ l0 a1 t161 t162 _ ?side1 ?side2 A31.out).mono ?_); (case side1 => repeat (first | exact (Kd.C_below HR0.out HB.out) | (with_reducible refine Kd.C_alloc ?_ _) | (with_reducible refine Kd.C_drewN ?_ _) | (with_reducible refine Kd.C_drew ?_))); (case side2 => exact HC0.out); rintro e w39 ⟨rfl, hb⟩; refine ⟨_, rfl, ?_⟩; have n0_ := Aside0.mk (below_step (by repeat (first | (with_reducible first | exact HB.out | apply below_alloc | apply pw_below_drewN | apply below_drew1) | exact HB.out)) hb); clear HB; have HB := n0_; clear n0_; (try clear hb); (try clear hb2); (try clear hk); (try clear hi)) | ((with_reducible refine gate_callee (f := 19) rfl ?_); refine goesL_ (some 73) rfl rfl Tryd.func19 (by kernel_rfl) rfl #[.slice A0 l0.length c0, .string a1] rfl (by (try simp only [List.map_toArray, List.map_cons, List.map_nil]); first | done | rfl | (simp only [List.length_drop, List.length_take]; rfl)) ?_; (with_reducible refine (copyholdref06_Find.calls kj19 _ _ l0 a1 t163 t164 _ ?side1 ?side2 A32.out).mono ?_); (case side1 => repeat (first | exact (Kd.C_below HR0.out HB.out) | (with_reducible refine Kd.C_alloc ?_ _) | (with_reducible refine Kd.C_drewN ?_ _) | (with_reducible refine Kd.C_drew ?_))); (case side2 => exact HC0.out); rintro e w' ⟨rfl, ⟨nd, rfl⟩⟩; refine ⟨_, rfl, ?_⟩) | (go_at_call 20; (with_reducible refine (name_Names.calls _ _ l0 t165 _ ?side1 ?side2 A36.out).mono ?_); (case side1 => repeat (first | exact (Kd.C_below HR0.out (by repeat (first | (with_reducible first | exact HB.out | apply below_alloc | apply pw_below_drewN | apply below_drew1) | exact HB.out))) | (with_reducible refine Kd.C_alloc ?_ _) | (with_reducible refine Kd.C_drewN ?_ _) | (with_reducible refine Kd.C_drew ?_))); (case side2 => exact HC0.out); rintro e w40 ⟨v166, rfl, ho0, hb⟩; have n0_ := Aside0.mk (Kd.R_lower ho0 (below_size (by repeat (first | (with_reducible first | exact HB.out | apply below_alloc | apply pw_below_drewN | apply below_drew1) | exact HB.out)))); have n1_ := Aside0.mk (below_step (by repeat (first | (with_reducible first | exact HB.out | apply below_alloc | apply pw_below_drewN | apply below_drew1) | exact HB.out)) hb); clear HB; have HO167 := n0_; have HB := n1_; clear n0_ n1_; (try clear hb); (try clear hb2); (try clear hk); (try clear hi); (try clear ho0)) | (go_at_call 21; (with_reducible refine (copyholdref06_Names.calls kj19 _ _ l0 t168 _ ?side1 ?side2 A37.out).mono ?_); (case side1 => repeat (first | exact (Kd.C_below HR0.out HB.out) | (with_reducible refine Kd.C_alloc ?_ _) | (with_reducible refine Kd.C_drewN ?_ _) | (with_reducible refine Kd.C_drew ?_))); (case side2 => exact HC0.out); rintro e w41 ⟨v169, rfl, ho0, hb⟩; have n0_ := Aside0.mk (Kd.R_elder' (by (with_reducible repeat (first | apply Kd.R_alloc | apply Kd.R_drewN | apply Kd.R_drew)); exact HO167.out) (Kd.R_base ho0) hb); have n1_ := Aside0.mk (Kd.R_lower (Kd.R_new' ho0 (Kd.R_lt (by (with_reducible repeat (first | apply Kd.R_alloc | apply Kd.R_drewN | apply Kd.R_drew)); exact HO167.out))) (below_size (by repeat (first | (with_reducible first | exact HB.out | apply below_alloc | apply pw_below_drewN | apply below_drew1) | exact HB.out)))); have n2_ := Aside0.mk (below_step (by repeat (first | (with_reducible first | exact HB.out | apply below_alloc | apply pw_below_drewN | apply below_drew1) | exact HB.out)) hb); clear HO167; clear HB; have HO167 := n0_; have HO170 := n1_; have HB := n2_; clear n0_ n1_ n2_; (try clear hb); (try clear hb2); (try clear hk); (try clear hi); (try clear ho0); obtain ⟨Ao42, co42, eo42⟩ := Kd.R_slice HO167.out; subst eo42; obtain ⟨Ao43, co43, eo43⟩ := Kd.R_slice HO170.out; subst eo43) | (go_at_call 13; (with_reducible refine (copyholdref01_Strings.calls kj19 _ _ t165 _ _ t168 t171 _ ?side1 ?side2 ?side3 ?side4 A38.out).mono ?_); (case side1 => repeat (first | exact (Kd.R_reads' HO167.out).2.2 | (with_reducible refine Kd.C_alloc ?_ _) | (with_reducible refine Kd.C_drewN ?_ _) | (with_reducible refine Kd.C_drew ?_))); (case side2 => exact (Kd.R_reads' HO167.out).2.1); (case side3 => repeat (first | exact (Kd.R_reads' HO170.out).2.2 | (with_reducible refine Kd.C_alloc ?_ _) | (with_reducible refine Kd.C_drewN ?_ _) | (with_reducible refine Kd.C_drew ?_))); (case side4 => exact (Kd.R_reads' HO170.out).2.1); rintro e w' ⟨rfl, ⟨nd, rfl⟩⟩))
                          go_ret
                          exact ⟨by first | rfl | (simp [errW_none, errW_some] <;> rfl) | (simp [*, errW_none, errW_some] <;> rfl), by repeat (first | (with_reducible first | exact HB.out | apply below_alloc | apply pw_below_drewN | apply below_drew1) | exact HB.out)⟩
                        · rw [if_neg c35] at H
                          have c35b0 : (t162 == t164) = false := by simpa using c35
                          (try (have c35b1 : decide (t162 = t164) = false := by simpa using c35))
                          (try (have c35b2 : (t162 == t164) = false := by simpa using c35))
                          (try (have c35b3 : ¬ (t162 = t164) := by simpa using c35))
                          clear c35
                          obtain rfl := Option.some.inj H
                          go_wp2_with (first | ((with_reducible refine gate_callee (f := 18) rfl ?_); refine goesL_ (some 67) rfl rfl Tryd.func18 (by kernel_rfl) rfl #[.slice A0 l0.length c0, .string a1] rfl (by (try simp only [List.map_toArray, List.map_cons, List.map_nil]); first | done | rfl | (simp only [List.length_drop, List.length_take]; rfl)) ?_; (with_reducible refine (name_Find.calls _ _ l0 a1 t161 t162 _ ?side1 ?side2 A31.out).mono ?_); (case side1 => repeat (first | exact (Kd.C_below HR0.out HB.out) | (with_reducible refine Kd.C_alloc ?_ _) | (with_reducible refine Kd.C_drewN ?_ _) | (with_reducible refine Kd.C_drew ?_))); (case side2 => exact HC0.out); rintro e w44 ⟨rfl, hb⟩; refine ⟨_, rfl, ?_⟩; have n0_ := Aside0.mk (below_step (by repeat (first | (with_reducible first | exact HB.out | apply below_alloc | apply pw_below_drewN | apply below_drew1) | exact HB.out)) hb); clear HB; have HB := n0_; clear n0_; (try clear hb); (try clear hb2); (try clear hk); (try clear hi)) | ((with_reducible refine gate_callee (f := 19) rfl ?_); refine goesL_ (some 73) rfl rfl Tryd.func19 (by kernel_rfl) rfl #[.slice A0 l0.length c0, .string a1] rfl (by (try simp only [List.map_toArray, List.map_cons, List.map_nil]); first | done | rfl | (simp only [List.length_drop, List.length_take]; rfl)) ?_; (with_reducible refine (copyholdref06_Find.calls kj19 _ _ l0 a1 t163 t164 _ ?side1 ?side2 A32.out).mono ?_); (case side1 => repeat (first | exact (Kd.C_below HR0.out HB.out) | (with_reducible refine Kd.C_alloc ?_ _) | (with_reducible refine Kd.C_drewN ?_ _) | (with_reducible refine Kd.C_drew ?_))); (case side2 => exact HC0.out); rintro e w' ⟨rfl, ⟨nd, rfl⟩⟩; refine ⟨_, rfl, ?_⟩))
                          go_ret
                          exact ⟨by first | rfl | (simp [errW_none, errW_some] <;> rfl) | (simp [*, errW_none, errW_some] <;> rfl), by repeat (first | (with_reducible first | exact HB.out | apply below_alloc | apply pw_below_drewN | apply below_drew1) | exact HB.out)⟩
                      · rw [if_neg c34] at H
                        have c34b0 : (t161 == t163) = false := beq_eq_false_iff_ne.mpr c34
                        have c34b1 : (t161 != t163) = true := bne_iff_ne.mpr c34
                        obtain rfl := Option.some.inj H
                        go_wp2_with (first | ((with_reducible refine gate_callee (f := 18) rfl ?_); refine goesL_ (some 67) rfl rfl Tryd.func18 (by kernel_rfl) rfl #[.slice A0 l0.length c0, .string a1] rfl (by (try simp only [List.map_toArray, List.map_cons, List.map_nil]); first | done | rfl | (simp only [List.length_drop, List.length_take]; rfl)) ?_; (with_reducible refine (name_Find.calls _ _ l0 a1 t161 t162 _ ?side1 ?side2 A31.out).mono ?_); (case side1 => repeat (first | exact (Kd.C_below HR0.out HB.out) | (with_reducible refine Kd.C_alloc ?_ _) | (with_reducible refine Kd.C_drewN ?_ _) | (with_reducible refine Kd.C_drew ?_))); (case side2 => exact HC0.out); rintro e w45 ⟨rfl, hb⟩; refine ⟨_, rfl, ?_⟩; have n0_ := Aside0.mk (below_step (by repeat (first | (with_reducible first | exact HB.out | apply below_alloc | apply pw_below_drewN | apply below_drew1) | exact HB.out)) hb); clear HB; have HB := n0_; clear n0_; (try clear hb); (try clear hb2); (try clear hk); (try clear hi)) | ((with_reducible refine gate_callee (f := 19) rfl ?_); refine goesL_ (some 73) rfl rfl Tryd.func19 (by kernel_rfl) rfl #[.slice A0 l0.length c0, .string a1] rfl (by (try simp only [List.map_toArray, List.map_cons, List.map_nil]); first | done | rfl | (simp only [List.length_drop, List.length_take]; rfl)) ?_; (with_reducible refine (copyholdref06_Find.calls kj19 _ _ l0 a1 t163 t164 _ ?side1 ?side2 A32.out).mono ?_); (case side1 => repeat (first | exact (Kd.C_below HR0.out HB.out) | (with_reducible refine Kd.C_alloc ?_ _) | (with_reducible refine Kd.C_drewN ?_ _) | (with_reducible refine Kd.C_drew ?_))); (case side2 => exact HC0.out); rintro e w' ⟨rfl, ⟨nd, rfl⟩⟩; refine ⟨_, rfl, ?_⟩))
                        go_ret
                        exact ⟨by first | rfl | (simp [errW_none, errW_some] <;> rfl) | (simp [*, errW_none, errW_some] <;> rfl), by repeat (first | (with_reducible first | exact HB.out | apply below_alloc | apply pw_below_drewN | apply below_drew1) | exact HB.out)⟩
                    · replace c33 := Bool.eq_false_iff.mpr c33
                      subst c33
                      have H1 : (some false) = some r := by rw [if_neg (show ¬ (false = true) by decide)] at H; exact H
                      clear H
                      have H := H1
                      clear H1
                      obtain rfl := Option.some.inj H
                      go_wp2_with (first | ((with_reducible refine gate_callee (f := 18) rfl ?_); refine goesL_ (some 67) rfl rfl Tryd.func18 (by kernel_rfl) rfl #[.slice A0 l0.length c0, .string a1] rfl (by (try simp only [List.map_toArray, List.map_cons, List.map_nil]); first | done | rfl | (simp only [List.length_drop, List.length_take]; rfl)) ?_; (with_reducible refine (name_Find.calls _ _ l0 a1 t161 t162 _ ?side1 ?side2 A31.out).mono ?_); (case side1 => repeat (first | exact (Kd.C_below HR0.out HB.out) | (with_reducible refine Kd.C_alloc ?_ _) | (with_reducible refine Kd.C_drewN ?_ _) | (with_reducible refine Kd.C_drew ?_))); (case side2 => exact HC0.out); rintro e w46 ⟨rfl, hb⟩; refine ⟨_, rfl, ?_⟩; have n0_ := Aside0.mk (below_step (by repeat (first | (with_reducible first | exact HB.out | apply below_alloc | apply pw_below_drewN | apply below_drew1) | exact HB.out)) hb); clear HB; have HB := n0_; clear n0_; (try clear hb); (try clear hb2); (try clear hk); (try clear hi)) | ((with_reducible refine gate_callee (f := 19) rfl ?_); refine goesL_ (some 73) rfl rfl Tryd.func19 (by kernel_rfl) rfl #[.slice A0 l0.length c0, .string a1] rfl (by (try simp only [List.map_toArray, List.map_cons, List.map_nil]); first | done | rfl | (simp only [List.length_drop, List.length_take]; rfl)) ?_; (with_reducible refine (copyholdref06_Find.calls kj19 _ _ l0 a1 t163 t164 _ ?side1 ?side2 A32.out).mono ?_); (case side1 => repeat (first | exact (Kd.C_below HR0.out HB.out) | (with_reducible refine Kd.C_alloc ?_ _) | (with_reducible refine Kd.C_drewN ?_ _) | (with_reducible refine Kd.C_drew ?_))); (case side2 => exact HC0.out); rintro e w' ⟨rfl, ⟨nd, rfl⟩⟩; refine ⟨_, rfl, ?_⟩))
                      go_ret
                      exact ⟨by first | rfl | (simp [errW_none, errW_some] <;> rfl) | (simp [*, errW_none, errW_some] <;> rfl), by repeat (first | (with_reducible first | exact HB.out | apply below_alloc | apply pw_below_drewN | apply below_drew1) | exact HB.out)⟩
                  · replace c30 := Bool.eq_false_iff.mpr c30
                    subst c30
                    have H1 : (some t147) = some r := by rw [if_neg (show ¬ (false = true) by decide)] at H; exact H
                    clear H
                    have H := H1
                    clear H1
                    obtain rfl := Option.some.inj H
                    go_wp2
                    go_ret
                    exact ⟨by first | rfl | (simp [errW_none, errW_some] <;> rfl) | (simp [*, errW_none, errW_some] <;> rfl), by repeat (first | (with_reducible first | exact HB.out | apply below_alloc | apply pw_below_drewN | apply below_drew1) | exact HB.out)⟩

-- GIVEN: function 22 (name_Enter): its Lean function and its contract stand in a text of this session's

/-! ### copyholdref06_Enter: function 23 -/
def copyholdref06_Enter.l0 : Nat → List (S56) → ByteArray → Int → List (S56) → Int → Option ((List (S56)) × Int)
  | 0, _, _, _, _, _ => none
  | k + 1, x0, x1, x2, x11, x12 => if x12 < (x0.length : Int) then (if 0 ≤ x12 then (if (Op.bytesLess (((rd_T56 x0 x12).f0).toList) x1.toList) = true then (if x11.length < 5864062014805 then (copyholdref06_Enter.l0 k x0 x1 x2 (x11 ++ [(⟨(rd_T56 x0 x12).f0, (rd_T56 x0 x12).f1⟩ : S56)]) (wrap64 (x12 + 1))) else (none)) else (if x11.length < 5864062014805 then ((some (x11 ++ [(⟨x1, x2⟩ : S56)] : List (S56))).bind fun y180 => (if x12 ≤ (x0.length : Int) then ((some (x0.drop (x12 : Int).toNat : List (S56))).bind fun y183 => (if y180.length + y183.length < 5864062014805 then (some ((y180 ++ y183), 0)) else (none))) else (none))) else (none))) else (none)) else (if x11.length < 5864062014805 then ((some (x11 ++ [(⟨x1, x2⟩ : S56)] : List (S56))).bind fun y191 => (if 0 ≤ x12 then (if x12 ≤ (x0.length : Int) then ((some (x0.drop (x12 : Int).toNat : List (S56))).bind fun y194 => (if y191.length + y194.length < 5864062014805 then (some ((y191 ++ y194), 0)) else (none))) else (none)) else (none))) else (none))
def copyholdref06_Enter.f (k : Nat) (l0 : List (S56)) (a1 : ByteArray) (a2 : Int) : Option ((List (S56)) × Int) := (copyholdref06_Check.f k a1).bind fun t172 => ((copyholdref06_Find.f k l0 a1).bind fun bt173 => (if t172 = 0 then (if a2 < 1 then (some (l0, 1)) else (if bt173.2 = true then (some (l0, 7)) else (if (l0.length : Int) ≥ 256 then (some (l0, 12)) else (copyholdref06_Enter.l0 k l0 a1 a2 ([] : List (S56)) 0)))) else (some (l0, t172))))
theorem copyholdref06_Enter.mono_l : ∀ k, (∀ y0 y1 y2 y3 y4, LeO (copyholdref06_Enter.l0 k y0 y1 y2 y3 y4) (copyholdref06_Enter.l0 (k + 1) y0 y1 y2 y3 y4))
  | 0 => fun _ _ _ _ _ r h => by simp [copyholdref06_Enter.l0] at h
  | k + 1 => by
    have ih0 := copyholdref06_Enter.mono_l k
    · intro y0 y1 y2 y3 y4
      unfold copyholdref06_Enter.l0
      repeat' first
      | (with_reducible exact ih0 _ _ _ _ _)
      | (with_reducible exact copyholdref06_Check.mono _ _)
      | (with_reducible exact copyholdref06_Find.mono _ _ _)
      | (with_reducible exact LeO.refl _)
      | (with_reducible exact LeO.none _)
      | (with_reducible refine LeO.ite ?_ ?_)
      | (with_reducible refine LeO.bind ?_ (fun _ => ?_))
      | exact ih0 _ _ _ _ _
      | exact copyholdref06_Check.mono _ _
      | exact copyholdref06_Find.mono _ _ _
      | exact LeO.none _
      | refine LeO.ite ?_ ?_
      | refine LeO.bind ?_ (fun _ => ?_)
theorem copyholdref06_Enter.mono : ∀ a0 a1 a2 k, LeO (copyholdref06_Enter.f k a0 a1 a2) (copyholdref06_Enter.f (k + 1) a0 a1 a2) := by
  intro a0 a1 a2 k
  have ih0 := copyholdref06_Enter.mono_l k
  unfold copyholdref06_Enter.f
  repeat' first
      | (with_reducible exact ih0 _ _ _ _ _)
      | (with_reducible exact copyholdref06_Check.mono _ _)
      | (with_reducible exact copyholdref06_Find.mono _ _ _)
      | (with_reducible exact LeO.refl _)
      | (with_reducible exact LeO.none _)
      | (with_reducible refine LeO.ite ?_ ?_)
      | (with_reducible refine LeO.bind ?_ (fun _ => ?_))
      | exact ih0 _ _ _ _ _
      | exact copyholdref06_Check.mono _ _
      | exact copyholdref06_Find.mono _ _ _
      | exact LeO.none _
      | refine LeO.ite ?_ ?_
      | refine LeO.bind ?_ (fun _ => ?_)
set_option maxHeartbeats 8000000 in
set_option maxRecDepth 100000 in
theorem copyholdref06_Enter.calls (k : Nat) (P0_ : Nat → Prop) (A0 : Option Addr) (c0 : Nat) (l0 : List (S56)) (a1 : ByteArray) (a2 : Int) (r1 : List (S56)) (r2 : Int) (w : World) (hs0 : Kd.V k56 56 w w.heap.size (fun k_ => P0_ k_) (.slice A0 l0.length c0) l0) (h : copyholdref06_Enter.f k l0 a1 a2 = some (r1, r2)) :
    Calls Tryd.prog 23 #[.slice A0 l0.length c0, .string a1, .int .i64 a2] w fun e w' => ∃ v0_ : Value, e = .returned (.tuple #[v0_, .int .i64 r2]) ∧ Kd.V k56 56 w' w.heap.size (fun k_ => (P0_ k_ ∨ w.heap.size ≤ k_)) v0_ r1 ∧ Below w.heap.size w w' := by
  have hu56 := Tryd.underlying56
  have HO0 := Aside0.mk (show Kd.V k56 56 w w.heap.size (fun k_ => (P0_ k_ ∨ w.heap.size ≤ k_)) (.slice A0 l0.length c0) l0 from Kd.V_mono hs0 (fun k_ hk => .inl hk))
  have HB := Aside0.mk (Below.refl w.heap.size w)
  have H : ((copyholdref06_Check.f k a1).bind fun t172 => ((copyholdref06_Find.f k l0 a1).bind fun bt173 => (if t172 = 0 then (if a2 < 1 then (some (l0, 1)) else (if bt173.2 = true then (some (l0, 7)) else (if (l0.length : Int) ≥ 256 then (some (l0, 12)) else (copyholdref06_Enter.l0 k l0 a1 a2 ([] : List (S56)) 0)))) else (some (l0, t172))))) = some (r1, r2) := h
  clear h
  replace H := Option.bind_eq_some_iff.mp H
  obtain ⟨t172, A40, H⟩ := H
  replace H : ((copyholdref06_Find.f k l0 a1).bind fun bt173 => (if t172 = 0 then (if a2 < 1 then (some (l0, 1)) else (if bt173.2 = true then (some (l0, 7)) else (if (l0.length : Int) ≥ 256 then (some (l0, 12)) else (copyholdref06_Enter.l0 k l0 a1 a2 ([] : List (S56)) 0)))) else (some (l0, t172)))) = some (r1, r2) := H
  have A4 := Aside0.mk A40
  clear A40
  replace H := Option.bind_eq_some_iff.mp H
  obtain ⟨⟨t173, t174⟩, A50, H⟩ := H
  replace H : (if t172 = 0 then (if a2 < 1 then (some (l0, 1)) else (if t174 = true then (some (l0, 7)) else (if (l0.length : Int) ≥ 256 then (some (l0, 12)) else (copyholdref06_Enter.l0 k l0 a1 a2 ([] : List (S56)) 0)))) else (some (l0, t172))) = some (r1, r2) := H
  have A5 := Aside0.mk A50
  clear A50
  by_cases c6 : t172 = 0
  · rw [if_pos c6] at H
    have c6b0 : (t172 == 0) = true := beq_iff_eq.mpr c6
    have c6b1 : (t172 != 0) = false := bne_eq_false_iff_eq.mpr c6
    clear c6
    by_cases c7 : a2 < 1
    · rw [if_pos c7] at H
      have c7b0 : decide (a2 < 1) = true := decide_eq_true c7
      clear c7
      simp only [Option.some.injEq, Prod.mk.injEq] at H
      obtain ⟨rfl, rfl⟩ := H
      go_enter Tryd.func23, Tryd.ntmps23
      go_wp2_with (first | ((with_reducible refine gate_callee (f := 11) rfl ?_); refine goesL_ (some 14) rfl rfl Tryd.func11 (by kernel_rfl) rfl #[.string a1] rfl (by (try simp only [List.map_toArray, List.map_cons, List.map_nil]); first | done | rfl | (simp only [List.length_drop, List.length_take]; rfl)) ?_; (with_reducible refine (copyholdref06_Check.calls k a1 t172 _ A4.out).mono ?_); rintro e w' ⟨rfl, ⟨nd, rfl⟩⟩; refine ⟨_, rfl, ?_⟩) | ((with_reducible refine gate_callee (f := 19) rfl ?_); refine goesL_ (some 18) rfl rfl Tryd.func19 (by kernel_rfl) rfl #[.slice A0 l0.length c0, .string a1] rfl (by (try simp only [List.map_toArray, List.map_cons, List.map_nil]); first | done | rfl | (simp only [List.length_drop, List.length_take]; rfl)) ?_; (with_reducible refine (copyholdref06_Find.calls k _ _ l0 a1 t173 t174 _ ?side1 ?side2 A5.out).mono ?_); (case side1 => repeat (first | exact (Kd.V_reads' HO0.out).2.2 | (with_reducible refine Kd.C_alloc ?_ _) | (with_reducible refine Kd.C_drewN ?_ _) | (with_reducible refine Kd.C_drew ?_))); (case side2 => exact (Kd.V_reads' HO0.out).2.1); rintro e w' ⟨rfl, ⟨nd, rfl⟩⟩; refine ⟨_, rfl, ?_⟩))
      go_ret2
      exact ⟨_, by first | rfl | (simp [errW_none, errW_some] <;> rfl) | (simp [*, errW_none, errW_some] <;> rfl), by (with_reducible repeat (first | apply Kd.V_alloc | apply Kd.V_drewN | apply Kd.V_drew)); exact HO0.out, by repeat (first | (with_reducible first | exact HB.out | apply below_alloc | apply pw_below_drewN | apply below_drew1) | exact HB.out)⟩
    · rw [if_neg c7] at H
      have c7b0 : decide (a2 < 1) = false := decide_eq_false c7
      clear c7
      by_cases c8 : t174 = true
      · subst c8
        have H1 : (some (l0, 7)) = some (r1, r2) := by rw [if_pos rfl] at H; exact H
        clear H
        have H := H1
        clear H1
        simp only [Option.some.injEq, Prod.mk.injEq] at H
        obtain ⟨rfl, rfl⟩ := H
        go_enter Tryd.func23, Tryd.ntmps23
        go_wp2_with (first | ((with_reducible refine gate_callee (f := 11) rfl ?_); refine goesL_ (some 14) rfl rfl Tryd.func11 (by kernel_rfl) rfl #[.string a1] rfl (by (try simp only [List.map_toArray, List.map_cons, List.map_nil]); first | done | rfl | (simp only [List.length_drop, List.length_take]; rfl)) ?_; (with_reducible refine (copyholdref06_Check.calls k a1 t172 _ A4.out).mono ?_); rintro e w' ⟨rfl, ⟨nd, rfl⟩⟩; refine ⟨_, rfl, ?_⟩) | ((with_reducible refine gate_callee (f := 19) rfl ?_); refine goesL_ (some 18) rfl rfl Tryd.func19 (by kernel_rfl) rfl #[.slice A0 l0.length c0, .string a1] rfl (by (try simp only [List.map_toArray, List.map_cons, List.map_nil]); first | done | rfl | (simp only [List.length_drop, List.length_take]; rfl)) ?_; (with_reducible refine (copyholdref06_Find.calls k _ _ l0 a1 t173 true _ ?side1 ?side2 A5.out).mono ?_); (case side1 => repeat (first | exact (Kd.V_reads' HO0.out).2.2 | (with_reducible refine Kd.C_alloc ?_ _) | (with_reducible refine Kd.C_drewN ?_ _) | (with_reducible refine Kd.C_drew ?_))); (case side2 => exact (Kd.V_reads' HO0.out).2.1); rintro e w' ⟨rfl, ⟨nd, rfl⟩⟩; refine ⟨_, rfl, ?_⟩))
        go_ret2
        exact ⟨_, by first | rfl | (simp [errW_none, errW_some] <;> rfl) | (simp [*, errW_none, errW_some] <;> rfl), by (with_reducible repeat (first | apply Kd.V_alloc | apply Kd.V_drewN | apply Kd.V_drew)); exact HO0.out, by repeat (first | (with_reducible first | exact HB.out | apply below_alloc | apply pw_below_drewN | apply below_drew1) | exact HB.out)⟩
      · replace c8 := Bool.eq_false_iff.mpr c8
        subst c8
        have H1 : (if (l0.length : Int) ≥ 256 then (some (l0, 12)) else (copyholdref06_Enter.l0 k l0 a1 a2 ([] : List (S56)) 0)) = some (r1, r2) := by rw [if_neg (show ¬ (false = true) by decide)] at H; exact H
        clear H
        have H := H1
        clear H1
        by_cases c9 : (l0.length : Int) ≥ 256
        · rw [if_pos c9] at H
          have c9b0 : decide (256 ≤ (l0.length : Int)) = true := decide_eq_true c9
          have c9b1 : decide (256 ≤ l0.length) = true := decide_eq_true (by omega)
          clear c9
          simp only [Option.some.injEq, Prod.mk.injEq] at H
          obtain ⟨rfl, rfl⟩ := H
          go_enter Tryd.func23, Tryd.ntmps23
          go_wp2_with (first | ((with_reducible refine gate_callee (f := 11) rfl ?_); refine goesL_ (some 14) rfl rfl Tryd.func11 (by kernel_rfl) rfl #[.string a1] rfl (by (try simp only [List.map_toArray, List.map_cons, List.map_nil]); first | done | rfl | (simp only [List.length_drop, List.length_take]; rfl)) ?_; (with_reducible refine (copyholdref06_Check.calls k a1 t172 _ A4.out).mono ?_); rintro e w' ⟨rfl, ⟨nd, rfl⟩⟩; refine ⟨_, rfl, ?_⟩) | ((with_reducible refine gate_callee (f := 19) rfl ?_); refine goesL_ (some 18) rfl rfl Tryd.func19 (by kernel_rfl) rfl #[.slice A0 l0.length c0, .string a1] rfl (by (try simp only [List.map_toArray, List.map_cons, List.map_nil]); first | done | rfl | (simp only [List.length_drop, List.length_take]; rfl)) ?_; (with_reducible refine (copyholdref06_Find.calls k _ _ l0 a1 t173 false _ ?side1 ?side2 A5.out).mono ?_); (case side1 => repeat (first | exact (Kd.V_reads' HO0.out).2.2 | (with_reducible refine Kd.C_alloc ?_ _) | (with_reducible refine Kd.C_drewN ?_ _) | (with_reducible refine Kd.C_drew ?_))); (case side2 => exact (Kd.V_reads' HO0.out).2.1); rintro e w' ⟨rfl, ⟨nd, rfl⟩⟩; refine ⟨_, rfl, ?_⟩))
          go_ret2
          exact ⟨_, by first | rfl | (simp [errW_none, errW_some] <;> rfl) | (simp [*, errW_none, errW_some] <;> rfl), by (with_reducible repeat (first | apply Kd.V_alloc | apply Kd.V_drewN | apply Kd.V_drew)); exact HO0.out, by repeat (first | (with_reducible first | exact HB.out | apply below_alloc | apply pw_below_drewN | apply below_drew1) | exact HB.out)⟩
        · rw [if_neg c9] at H
          have c9b0 : decide (256 ≤ (l0.length : Int)) = false := decide_eq_false c9
          have c9b1 : decide (256 ≤ l0.length) = false := decide_eq_false (by omega)
          clear c9
          have H' := Aside0.mk H
          clear H
          go_enter Tryd.func23, Tryd.ntmps23
          go_wp2_with (first | ((with_reducible refine gate_callee (f := 11) rfl ?_); refine goesL_ (some 14) rfl rfl Tryd.func11 (by kernel_rfl) rfl #[.string a1] rfl (by (try simp only [List.map_toArray, List.map_cons, List.map_nil]); first | done | rfl | (simp only [List.length_drop, List.length_take]; rfl)) ?_; (with_reducible refine (copyholdref06_Check.calls k a1 t172 _ A4.out).mono ?_); rintro e w' ⟨rfl, ⟨nd, rfl⟩⟩; refine ⟨_, rfl, ?_⟩) | ((with_reducible refine gate_callee (f := 19) rfl ?_); refine goesL_ (some 18) rfl rfl Tryd.func19 (by kernel_rfl) rfl #[.slice A0 l0.length c0, .string a1] rfl (by (try simp only [List.map_toArray, List.map_cons, List.map_nil]); first | done | rfl | (simp only [List.length_drop, List.length_take]; rfl)) ?_; (with_reducible refine (copyholdref06_Find.calls k _ _ l0 a1 t173 false _ ?side1 ?side2 A5.out).mono ?_); (case side1 => repeat (first | exact (Kd.V_reads' HO0.out).2.2 | (with_reducible refine Kd.C_alloc ?_ _) | (with_reducible refine Kd.C_drewN ?_ _) | (with_reducible refine Kd.C_drew ?_))); (case side2 => exact (Kd.V_reads' HO0.out).2.1); rintro e w' ⟨rfl, ⟨nd, rfl⟩⟩; refine ⟨_, rfl, ?_⟩))
          go_loopg [11, 12] k (fun kq v11 v12 w' => ∃ (x11_1 : List (S56)) (x12_1 : Int), v12 = .int .i64 x12_1 ∧ Aside0 (copyholdref06_Enter.l0 kq l0 a1 a2 x11_1 x12_1 = some (r1, r2)) ∧ Aside0 (kq ≤ k) ∧ Aside0 (Kd.V k56 56 w' w.heap.size (fun k_ => (P0_ k_ ∨ w.heap.size ≤ k_) ∧ some k_ ≠ (v11 : Value).ownBlock) (.slice A0 l0.length c0) l0) ∧ Aside0 (Kd.R k56 56 w' w.heap.size (fun k_ => (w.heap.size ≤ k_)) v11 x11_1) ∧ Aside0 (Below w.heap.size w w'))
          case atStart => exact ⟨(([] : List (S56))), (0), (by first | rfl | (simp; done) | (simp [*]; done)), H', ⟨Nat.le_refl _⟩, ⟨by (with_reducible repeat (first | apply Kd.V_alloc | apply Kd.V_drewN | apply Kd.V_drew)); exact Kd.V_mono HO0.out (fun _ hk => ⟨hk, (by simp [Value.ownBlock])⟩)⟩, ⟨by first | exact Kd.R_nil _ _ _ _ _ | exact Kd.N_nil _ _ _ _ _ | exact Kd.V_nil _ _ _ _ _ | exact Kd.Q_nil _ _ _ _ _ | exact Kd.S_nil _ _ _ _ _⟩, ⟨by repeat (first | (with_reducible first | exact HB.out | apply below_alloc | apply pw_below_drewN | apply below_drew1) | exact HB.out)⟩⟩
          case round =>
            clear H'
            try clear c1
            try clear c2
            try clear p2
            try clear c6
            try clear c6b0
            try clear c6b1
            try clear c7
            try clear c7b0
            try clear c8
            try clear c9
            try clear c9b0
            try clear c9b1
            obtain ⟨x11_1, x12_1, rfl, HA, HK1, HO_0, HO_11, HB⟩ := hrel
            cases gk with
            | zero => exact absurd HA.out (by simp [copyholdref06_Enter.l0])
            | succ k1 =>
              have H := HA.out
              clear HA
              simp only [copyholdref06_Enter.l0] at H
              by_cases c10 : x12_1 < (l0.length : Int)
              · rw [if_pos c10] at H
                have c10b0 : decide (x12_1 < (l0.length : Int)) = true := decide_eq_true c10
                clear c10
                by_cases c11 : 0 ≤ x12_1
                · rw [if_pos c11] at H
                  have c11b0 : decide (0 ≤ x12_1) = true := decide_eq_true c11
                  clear c11
                  by_cases c12 : (Op.bytesLess (((rd_T56 l0 x12_1).f0).toList) a1.toList) = true
                  · rw [if_pos c12] at H
                    have c12b0 : (Op.bytesLess (((rd_T56 l0 x12_1).f0).toList) a1.toList) = true := c12
                    clear c12
                    by_cases c13 : x11_1.length < 5864062014805
                    · rw [if_pos c13] at H
                      have LMc13 := Aside0.mk c13
                      clear c13
                      obtain ⟨y177, hy177⟩ : ∃ y_ : List (S56), y_ = (x11_1 ++ [(⟨(rd_T56 l0 x12_1).f0, (rd_T56 l0 x12_1).f1⟩ : S56)]) := ⟨_, rfl⟩
                      replace H : (copyholdref06_Enter.l0 k1 l0 a1 a2 y177 (wrap64 (x12_1 + 1))) = some (r1, r2) := by first | (rw [hy177]; with_reducible exact H) | (have H2_ := (Option.bind_some _ _).symm.trans H; rw [hy177]; with_reducible exact H2_) | (have H2_ := (Option.bind_some _ _).symm.trans H; with_reducible exact H2_) | with_reducible exact H | (rw [hy177]; exact H) | exact H
                      have Ny177 := Aside0.mk hy177
                      clear hy177
                      have H' := Aside0.mk H
                      clear H
                      have p175 : 0 ≤ (x12_1 : Int) := of_decide_eq_true (by first | (with_reducible assumption) | assumption)
                      have q175 : x12_1 < (l0.length : Int) := of_decide_eq_true (by first | (with_reducible assumption) | assumption)
                      obtain ⟨ad175, e175, hx175_0, hx175_1⟩ := at_T56 (Kd.V_reads' HO_0.out).2.2 x12_1 p175 q175
                      cases e175
                      replace p175 := eq_true p175
                      replace q175 := eq_true q175
                      have p176 : 0 ≤ (x12_1 : Int) := of_decide_eq_true (by first | (with_reducible assumption) | assumption)
                      have q176 : x12_1 < (l0.length : Int) := of_decide_eq_true (by first | (with_reducible assumption) | assumption)
                      obtain ⟨ad176, e176, hx176_0, hx176_1⟩ := at_T56 (Kd.V_reads' HO_0.out).2.2 x12_1 p176 q176
                      obtain rfl : ad175 = ad176 := (by injection e176)
                      replace p176 := eq_true p176
                      replace q176 := eq_true q176
                      go_wp2_with (first | ((with_reducible refine gate_builtin (b := .append) (xs := #[.tmp 47, .tmp 52]) rfl ?_); at_builtin; refine Kd.R_append k56 (w0 := w) w.heap.size rfl (.tmp 47) (.tmp 52) 30 56 (.agg #[(.string ⟨#[]⟩), (.int .i64 0)]) 24 rfl Tryd.underlying30 info56 rfl (by decide) (by omega) u11 x11_1 (⟨(rd_T56 l0 x12_1).f0, (rd_T56 l0 x12_1).f1⟩ : S56) [.string ((rd_T56 l0 x12_1).f0), .int .i64 ((rd_T56 l0 x12_1).f1)] (fun k_ => (w.heap.size ≤ k_)) (fun _ => False) rfl rfl ?aP (fun _ hk => hk.elim) ?aF ?aO ?aB ?aS ?aL ?_; (case aP => exact k56_mkM _ _ _ (⟨(rd_T56 l0 x12_1).f0, (rd_T56 l0 x12_1).f1⟩ : S56)); (case aB => exact (by repeat (first | (with_reducible first | exact HB.out | apply below_alloc | apply pw_below_drewN | apply below_drew1) | exact HB.out))); (case aF => exact (fun k_ hk => (Nat.le_trans (below_size (by repeat (first | (with_reducible first | exact HB.out | apply below_alloc | apply pw_below_drewN | apply below_drew1) | exact HB.out))) hk))); (case aO => exact (by (with_reducible repeat (first | apply Kd.R_alloc | apply Kd.R_drewN | apply Kd.R_drew)); exact HO_11.out)); (case aS => exact (below_size (by repeat (first | (with_reducible first | exact HB.out | apply below_alloc | apply pw_below_drewN | apply below_drew1) | exact HB.out)))); (case aL => have := LMc13.out; omega); intro v178 w14 ho hb hg hat; rw [← Ny177.out] at ho; have n0_ := Aside0.mk (Kd.V_afterv (ok := (fun k_ => (P0_ k_ ∨ w.heap.size ≤ k_))) (by (with_reducible repeat (first | apply Kd.V_alloc | apply Kd.V_drewN | apply Kd.V_drew)); exact HO_0.out) hg hat); have n1_ := Aside0.mk (hb); have n2_ := Aside0.mk (ho); clear HO_0; clear HB; clear HO_11; have HO_0 := n0_; have HB := n1_; have HO179 := n2_; clear n0_ n1_ n2_; clear ho hb hg hat))
                      go_roundg k1
                      case measure => have := HK1.out; omega
                      case rel => exact ⟨(y177), (wrap64 (x12_1 + 1)), (by first | rfl | (simp; done) | (simp [*]; done)), H', ⟨by have := HK1.out; omega⟩, ⟨by (with_reducible repeat (first | apply Kd.V_alloc | apply Kd.V_drewN | apply Kd.V_drew)); exact HO_0.out⟩, ⟨by (with_reducible repeat (first | apply Kd.R_alloc | apply Kd.R_drewN | apply Kd.R_drew)); exact HO179.out⟩, ⟨by repeat (first | (with_reducible first | exact HB.out | apply below_alloc | apply pw_below_drewN | apply below_drew1) | exact HB.out)⟩⟩
                    · rw [if_neg c13] at H
                      exact absurd H (by simp)
                  · rw [if_neg c12] at H
                    have c12b0 : (Op.bytesLess (((rd_T56 l0 x12_1).f0).toList) a1.toList) = false := by simpa using c12
                    clear c12
                    by_cases c15 : x11_1.length < 5864062014805
                    · rw [if_pos c15] at H
                      have LMc15 := Aside0.mk c15
                      clear c15
                      obtain ⟨y180, hy180⟩ : ∃ y_ : List (S56), y_ = (x11_1 ++ [(⟨a1, a2⟩ : S56)]) := ⟨_, rfl⟩
                      replace H : (if x12_1 ≤ (l0.length : Int) then ((some (l0.drop (x12_1 : Int).toNat : List (S56))).bind fun y183 => (if y180.length + y183.length < 5864062014805 then (some ((y180 ++ y183), 0)) else (none))) else (none)) = some (r1, r2) := by first | (rw [hy180]; with_reducible exact H) | (have H2_ := (Option.bind_some _ _).symm.trans H; rw [hy180]; with_reducible exact H2_) | (have H2_ := (Option.bind_some _ _).symm.trans H; with_reducible exact H2_) | with_reducible exact H | (rw [hy180]; exact H) | exact H
                      have Ny180 := Aside0.mk hy180
                      clear hy180
                      have c16b0 := eq_true (of_decide_eq_true (by first | (with_reducible assumption) | assumption) : 0 ≤ x12_1)
                      by_cases c17 : x12_1 ≤ (l0.length : Int)
                      · rw [if_pos c17] at H
                        have c17b0 := eq_true c17
                        have c17b1 : decide (x12_1 ≤ (l0.length : Int)) = true := decide_eq_true c17
                        clear c17
                        obtain ⟨y183, hy183⟩ : ∃ y_ : List (S56), y_ = (l0.drop (x12_1 : Int).toNat) := ⟨_, rfl⟩
                        replace H : (if y180.length + y183.length < 5864062014805 then (some ((y180 ++ y183), 0)) else (none)) = some (r1, r2) := by first | (rw [hy183]; with_reducible exact H) | (have H2_ := (Option.bind_some _ _).symm.trans H; rw [hy183]; with_reducible exact H2_) | (have H2_ := (Option.bind_some _ _).symm.trans H; with_reducible exact H2_) | with_reducible exact H | (rw [hy183]; exact H) | exact H
                        have Ny183 := Aside0.mk hy183
                        clear hy183
                        by_cases c18 : y180.length + y183.length < 5864062014805
                        · rw [if_pos c18] at H
                          have LMc18 := Aside0.mk c18
                          clear c18
                          obtain ⟨y188, hy188⟩ : ∃ y_ : List (S56), y_ = (y180 ++ y183) := ⟨_, rfl⟩
                          replace H : (some (y188, 0)) = some (r1, r2) := by first | (rw [hy188]; with_reducible exact H) | (have H2_ := (Option.bind_some _ _).symm.trans H; rw [hy188]; with_reducible exact H2_) | (have H2_ := (Option.bind_some _ _).symm.trans H; with_reducible exact H2_) | with_reducible exact H | (rw [hy188]; exact H) | exact H
                          have Ny188 := Aside0.mk hy188
                          clear hy188
                          simp only [Option.some.injEq, Prod.mk.injEq] at H
                          obtain ⟨rfl, rfl⟩ := H
                          have p175 : 0 ≤ (x12_1 : Int) := of_decide_eq_true (by first | (with_reducible assumption) | assumption)
                          have q175 : x12_1 < (l0.length : Int) := of_decide_eq_true (by first | (with_reducible assumption) | assumption)
                          obtain ⟨ad175, e175, hx175_0, hx175_1⟩ := at_T56 (Kd.V_reads' HO_0.out).2.2 x12_1 p175 q175
                          cases e175
                          replace p175 := eq_true p175
                          replace q175 := eq_true q175
                          go_wp2_with (first | ((with_reducible refine gate_builtin (b := .append) (xs := #[.tmp 56, .tmp 60]) rfl ?_); at_builtin; refine Kd.R_append k56 (w0 := w) w.heap.size rfl (.tmp 56) (.tmp 60) 30 56 (.agg #[(.string ⟨#[]⟩), (.int .i64 0)]) 24 rfl Tryd.underlying30 info56 rfl (by decide) (by omega) u11 x11_1 (⟨a1, a2⟩ : S56) [.string a1, .int .i64 a2] (fun k_ => (w.heap.size ≤ k_)) (fun _ => False) rfl rfl ?aP (fun _ hk => hk.elim) ?aF ?aO ?aB ?aS ?aL ?_; (case aP => exact k56_mkM _ _ _ (⟨a1, a2⟩ : S56)); (case aB => exact (by repeat (first | (with_reducible first | exact HB.out | apply below_alloc | apply pw_below_drewN | apply below_drew1) | exact HB.out))); (case aF => exact (fun k_ hk => (Nat.le_trans (below_size (by repeat (first | (with_reducible first | exact HB.out | apply below_alloc | apply pw_below_drewN | apply below_drew1) | exact HB.out))) hk))); (case aO => exact (by (with_reducible repeat (first | apply Kd.R_alloc | apply Kd.R_drewN | apply Kd.R_drew)); exact HO_11.out)); (case aS => exact (below_size (by repeat (first | (with_reducible first | exact HB.out | apply below_alloc | apply pw_below_drewN | apply below_drew1) | exact HB.out)))); (case aL => have := LMc15.out; omega); intro v181 w19 ho hb hg hat; rw [← Ny180.out] at ho; have n0_ := Aside0.mk (Kd.V_afterv (ok := (fun k_ => (P0_ k_ ∨ w.heap.size ≤ k_))) (by (with_reducible repeat (first | apply Kd.V_alloc | apply Kd.V_drewN | apply Kd.V_drew)); exact HO_0.out) hg hat); have n1_ := Aside0.mk (hb); have n2_ := Aside0.mk (ho); clear HO_0; clear HB; clear HO_11; have HO_0 := n0_; have HB := n1_; have HO182 := n2_; clear n0_ n1_ n2_; clear ho hb hg hat; have q20 : (x12_1 : Int) ≤ ((l0.length : Int) : Int) := of_decide_eq_true (by first | (with_reducible assumption) | assumption); obtain ⟨i020, hi020, _, hsz20, _⟩ := info_parts info56; have hroom20 : l0.length ≤ c0 := (Kd.V_reads' HO_0.out).2.1; have hC20 : Kd.F k56 _ _ (some ad175) l0.length l0 := (Kd.V_at (base := w.heap.size) HO_0.out).2.2; have q020 : (0 : Int) ≤ (x12_1 : Int) := of_decide_eq_true (by first | (with_reducible assumption) | assumption); have hcut20 := cut_from (P := Tryd.prog) 30 56 .i64 Tryd.underlying30 hi020 2 hsz20 (some ad175) l0.length c0 x12_1 q020 q20; have hr20 := Kd.F_cut (m := (x12_1 : Int).toNat) (c := c0) hC20 (by omega) hroom20; obtain ⟨A20, hA20⟩ : ∃ A1, A1 = (if c0 = (x12_1 : Int).toNat then (some ad175) else ((some ad175) : Option Addr).map (·.add ((x12_1 : Int).toNat * 2))) := ⟨_, rfl⟩; obtain ⟨c20, hc20⟩ : ∃ c1, c1 = c0 - (x12_1 : Int).toNat := ⟨_, rfl⟩; have hy20 : y183.length = l0.length - (x12_1 : Int).toNat := (by rw [Ny183.out, List.length_drop] <;> omega); rw [show (l0).drop (x12_1 : Int).toNat = y183 from Ny183.out.symm] at hr20; replace hr20 : Kd.F k56 _ _ A20 y183.length y183 := (by rw [hA20]; exact hr20); rw [← hy20, ← hA20, ← hc20] at hcut20; have HO187 := Aside0.mk (show Kd.V k56 56 _ w.heap.size _ (.slice A20 y183.length c20) y183 from Kd.V_mk (by rw [hy20, hc20]; exact Nat.sub_le_sub_right hroom20 _) hr20); have HC187 := Aside0.mk (show y183.length ≤ c20 from by rw [hy20, hc20]; exact Nat.sub_le_sub_right hroom20 _); clear hr20 hC20 hroom20 hi020 hsz20 hc20; have KY20 := Aside0.mk hy20; have KA20 := Aside0.mk hA20; clear hy20 hA20; replace q20 := eq_true q20) | ((with_reducible refine gate_builtin (b := .append) (xs := #[.tmp 62, .tmp 65]) rfl ?_); at_builtin; refine Kd.R_append_rows k56 (w0 := w) w.heap.size rfl (.tmp 62) (.tmp 65) 30 56 (.agg #[(.string ⟨#[]⟩), (.int .i64 0)]) 24 rfl Tryd.underlying30 info56 rfl (by decide) (by omega) v181 y180 y183 _ _ _ (fun k_ => (w.heap.size ≤ k_)) (fun _ => False) rfl rfl ?aO ?aR (fun _ _ h => h) (fun _ h => h.elim) ?aF ?aB ?aS ?aL ?_; (case aR => repeat (first | exact (Kd.V_reads' HO187.out).2.2 | (with_reducible refine Kd.C_alloc ?_ _) | (with_reducible refine Kd.C_drewN ?_ _) | (with_reducible refine Kd.C_drew ?_))); (case aB => exact (by repeat (first | (with_reducible first | exact HB.out | apply below_alloc | apply pw_below_drewN | apply below_drew1) | exact HB.out))); (case aF => exact (fun k_ hk => (Nat.le_trans (below_size (by repeat (first | (with_reducible first | exact HB.out | apply below_alloc | apply pw_below_drewN | apply below_drew1) | exact HB.out))) hk))); (case aO => exact (by (with_reducible repeat (first | apply Kd.R_alloc | apply Kd.R_drewN | apply Kd.R_drew)); exact HO182.out)); (case aS => exact (below_size (by repeat (first | (with_reducible first | exact HB.out | apply below_alloc | apply pw_below_drewN | apply below_drew1) | exact HB.out)))); (case aL => have := LMc18.out; omega); intro v189 w21 ho hb hg hat; rw [← Ny188.out] at ho; have n0_ := Aside0.mk (Kd.V_afterv (ok := (fun k_ => (P0_ k_ ∨ w.heap.size ≤ k_))) (by (with_reducible repeat (first | apply Kd.V_alloc | apply Kd.V_drewN | apply Kd.V_drew)); exact HO_0.out) hg hat); have n1_ := Aside0.mk (Kd.V_afterv (ok := (fun k_ => (P0_ k_ ∨ w.heap.size ≤ k_))) (by (with_reducible repeat (first | apply Kd.V_alloc | apply Kd.V_drewN | apply Kd.V_drew)); exact HO187.out) hg hat); have n2_ := Aside0.mk (hb); have n3_ := Aside0.mk (ho); clear HO_0; clear HO187; clear HB; clear HO182; have HO_0 := n0_; have HO187 := n1_; have HB := n2_; have HO190 := n3_; clear n0_ n1_ n2_ n3_; clear ho hb hg hat))
                          go_ret2
                          exact ⟨_, by first | rfl | (simp [errW_none, errW_some] <;> rfl) | (simp [*, errW_none, errW_some] <;> rfl), Kd.V_mono (Kd.R_V (by (with_reducible repeat (first | apply Kd.R_alloc | apply Kd.R_drewN | apply Kd.R_drew)); exact HO190.out)) (fun k_ hk => by first | exact ⟨(.inr (hk.1)), hk.2⟩ | exact (.inr (hk))), by repeat (first | (with_reducible first | exact HB.out | apply below_alloc | apply pw_below_drewN | apply below_drew1) | exact HB.out)⟩
                        · rw [if_neg c18] at H
                          exact absurd H (by simp)
                      · rw [if_neg c17] at H
                        exact absurd H (by simp)
                    · rw [if_neg c15] at H
                      exact absurd H (by simp)
                · rw [if_neg c11] at H
                  exact absurd H (by simp)
              · rw [if_neg c10] at H
                have c10b0 : decide (x12_1 < (l0.length : Int)) = false := decide_eq_false c10
                clear c10
                by_cases c22 : x11_1.length < 5864062014805
                · rw [if_pos c22] at H
                  have LMc22 := Aside0.mk c22
                  clear c22
                  obtain ⟨y191, hy191⟩ : ∃ y_ : List (S56), y_ = (x11_1 ++ [(⟨a1, a2⟩ : S56)]) := ⟨_, rfl⟩
                  replace H : (if 0 ≤ x12_1 then (if x12_1 ≤ (l0.length : Int) then ((some (l0.drop (x12_1 : Int).toNat : List (S56))).bind fun y194 => (if y191.length + y194.length < 5864062014805 then (some ((y191 ++ y194), 0)) else (none))) else (none)) else (none)) = some (r1, r2) := by first | (rw [hy191]; with_reducible exact H) | (have H2_ := (Option.bind_some _ _).symm.trans H; rw [hy191]; with_reducible exact H2_) | (have H2_ := (Option.bind_some _ _).symm.trans H; with_reducible exact H2_) | with_reducible exact H | (rw [hy191]; exact H) | exact H
                  have Ny191 := Aside0.mk hy191
                  clear hy191
                  by_cases c23 : 0 ≤ x12_1
                  · rw [if_pos c23] at H
                    have c23b0 := eq_true c23
                    have c23b1 : decide (0 ≤ x12_1) = true := decide_eq_true c23
                    clear c23
                    by_cases c24 : x12_1 ≤ (l0.length : Int)
                    · rw [if_pos c24] at H
                      have c24b0 := eq_true c24
                      have c24b1 : decide (x12_1 ≤ (l0.length : Int)) = true := decide_eq_true c24
                      clear c24
                      obtain ⟨y194, hy194⟩ : ∃ y_ : List (S56), y_ = (l0.drop (x12_1 : Int).toNat) := ⟨_, rfl⟩
                      replace H : (if y191.length + y194.length < 5864062014805 then (some ((y191 ++ y194), 0)) else (none)) = some (r1, r2) := by first | (rw [hy194]; with_reducible exact H) | (have H2_ := (Option.bind_some _ _).symm.trans H; rw [hy194]; with_reducible exact H2_) | (have H2_ := (Option.bind_some _ _).symm.trans H; with_reducible exact H2_) | with_reducible exact H | (rw [hy194]; exact H) | exact H
                      have Ny194 := Aside0.mk hy194
                      clear hy194
                      by_cases c25 : y191.length + y194.length < 5864062014805
                      · rw [if_pos c25] at H
                        have LMc25 := Aside0.mk c25
                        clear c25
                        obtain ⟨y199, hy199⟩ : ∃ y_ : List (S56), y_ = (y191 ++ y194) := ⟨_, rfl⟩
                        replace H : (some (y199, 0)) = some (r1, r2) := by first | (rw [hy199]; with_reducible exact H) | (have H2_ := (Option.bind_some _ _).symm.trans H; rw [hy199]; with_reducible exact H2_) | (have H2_ := (Option.bind_some _ _).symm.trans H; with_reducible exact H2_) | with_reducible exact H | (rw [hy199]; exact H) | exact H
                        have Ny199 := Aside0.mk hy199
                        clear hy199
                        simp only [Option.some.injEq, Prod.mk.injEq] at H
                        obtain ⟨rfl, rfl⟩ := H
                        go_wp2_with (first | ((with_reducible refine gate_builtin (b := .append) (xs := #[.tmp 56, .tmp 60]) rfl ?_); at_builtin; refine Kd.R_append k56 (w0 := w) w.heap.size rfl (.tmp 56) (.tmp 60) 30 56 (.agg #[(.string ⟨#[]⟩), (.int .i64 0)]) 24 rfl Tryd.underlying30 info56 rfl (by decide) (by omega) u11 x11_1 (⟨a1, a2⟩ : S56) [.string a1, .int .i64 a2] (fun k_ => (w.heap.size ≤ k_)) (fun _ => False) rfl rfl ?aP (fun _ hk => hk.elim) ?aF ?aO ?aB ?aS ?aL ?_; (case aP => exact k56_mkM _ _ _ (⟨a1, a2⟩ : S56)); (case aB => exact (by repeat (first | (with_reducible first | exact HB.out | apply below_alloc | apply pw_below_drewN | apply below_drew1) | exact HB.out))); (case aF => exact (fun k_ hk => (Nat.le_trans (below_size (by repeat (first | (with_reducible first | exact HB.out | apply below_alloc | apply pw_below_drewN | apply below_drew1) | exact HB.out))) hk))); (case aO => exact (by (with_reducible repeat (first | apply Kd.R_alloc | apply Kd.R_drewN | apply Kd.R_drew)); exact HO_11.out)); (case aS => exact (below_size (by repeat (first | (with_reducible first | exact HB.out | apply below_alloc | apply pw_below_drewN | apply below_drew1) | exact HB.out)))); (case aL => have := LMc22.out; omega); intro v192 w26 ho hb hg hat; rw [← Ny191.out] at ho; have n0_ := Aside0.mk (Kd.V_afterv (ok := (fun k_ => (P0_ k_ ∨ w.heap.size ≤ k_))) (by (with_reducible repeat (first | apply Kd.V_alloc | apply Kd.V_drewN | apply Kd.V_drew)); exact HO_0.out) hg hat); have n1_ := Aside0.mk (hb); have n2_ := Aside0.mk (ho); clear HO_0; clear HB; clear HO_11; have HO_0 := n0_; have HB := n1_; have HO193 := n2_; clear n0_ n1_ n2_; clear ho hb hg hat; have q27 : (x12_1 : Int) ≤ ((l0.length : Int) : Int) := of_decide_eq_true (by first | (with_reducible assumption) | assumption); obtain ⟨i027, hi027, _, hsz27, _⟩ := info_parts info56; have hroom27 : l0.length ≤ c0 := (Kd.V_reads' HO_0.out).2.1; have hC27 : Kd.F k56 _ _ A0 l0.length l0 := (Kd.V_at (base := w.heap.size) HO_0.out).2.2; have q027 : (0 : Int) ≤ (x12_1 : Int) := of_decide_eq_true (by first | (with_reducible assumption) | assumption); have hcut27 := cut_from (P := Tryd.prog) 30 56 .i64 Tryd.underlying30 hi027 2 hsz27 A0 l0.length c0 x12_1 q027 q27; have hr27 := Kd.F_cut (m := (x12_1 : Int).toNat) (c := c0) hC27 (by omega) hroom27; obtain ⟨A27, hA27⟩ : ∃ A1, A1 = (if c0 = (x12_1 : Int).toNat then A0 else (A0 : Option Addr).map (·.add ((x12_1 : Int).toNat * 2))) := ⟨_, rfl⟩; obtain ⟨c27, hc27⟩ : ∃ c1, c1 = c0 - (x12_1 : Int).toNat := ⟨_, rfl⟩; have hy27 : y194.length = l0.length - (x12_1 : Int).toNat := (by rw [Ny194.out, List.length_drop] <;> omega); rw [show (l0).drop (x12_1 : Int).toNat = y194 from Ny194.out.symm] at hr27; replace hr27 : Kd.F k56 _ _ A27 y194.length y194 := (by rw [hA27]; exact hr27); rw [← hy27, ← hA27, ← hc27] at hcut27; have HO198 := Aside0.mk (show Kd.V k56 56 _ w.heap.size _ (.slice A27 y194.length c27) y194 from Kd.V_mk (by rw [hy27, hc27]; exact Nat.sub_le_sub_right hroom27 _) hr27); have HC198 := Aside0.mk (show y194.length ≤ c27 from by rw [hy27, hc27]; exact Nat.sub_le_sub_right hroom27 _); clear hr27 hC27 hroom27 hi027 hsz27 hc27; have KY27 := Aside0.mk hy27; have KA27 := Aside0.mk hA27; clear hy27 hA27; replace q27 := eq_true q27) | ((with_reducible refine gate_builtin (b := .append) (xs := #[.tmp 62, .tmp 65]) rfl ?_); at_builtin; refine Kd.R_append_rows k56 (w0 := w) w.heap.size rfl (.tmp 62) (.tmp 65) 30 56 (.agg #[(.string ⟨#[]⟩), (.int .i64 0)]) 24 rfl Tryd.underlying30 info56 rfl (by decide) (by omega) v192 y191 y194 _ _ _ (fun k_ => (w.heap.size ≤ k_)) (fun _ => False) rfl rfl ?aO ?aR (fun _ _ h => h) (fun _ h => h.elim) ?aF ?aB ?aS ?aL ?_; (case aR => repeat (first | exact (Kd.V_reads' HO198.out).2.2 | (with_reducible refine Kd.C_alloc ?_ _) | (with_reducible refine Kd.C_drewN ?_ _) | (with_reducible refine Kd.C_drew ?_))); (case aB => exact (by repeat (first | (with_reducible first | exact HB.out | apply below_alloc | apply pw_below_drewN | apply below_drew1) | exact HB.out))); (case aF => exact (fun k_ hk => (Nat.le_trans (below_size (by repeat (first | (with_reducible first | exact HB.out | apply below_alloc | apply pw_below_drewN | apply below_drew1) | exact HB.out))) hk))); (case aO => exact (by (with_reducible repeat (first | apply Kd.R_alloc | apply Kd.R_drewN | apply Kd.R_drew)); exact HO193.out)); (case aS => exact (below_size (by repeat (first | (with_reducible first | exact HB.out | apply below_alloc | apply pw_below_drewN | apply below_drew1) | exact HB.out)))); (case aL => have := LMc25.out; omega); intro v200 w28 ho hb hg hat; rw [← Ny199.out] at ho; have n0_ := Aside0.mk (Kd.V_afterv (ok := (fun k_ => (P0_ k_ ∨ w.heap.size ≤ k_))) (by (with_reducible repeat (first | apply Kd.V_alloc | apply Kd.V_drewN | apply Kd.V_drew)); exact HO_0.out) hg hat); have n1_ := Aside0.mk (Kd.V_afterv (ok := (fun k_ => (P0_ k_ ∨ w.heap.size ≤ k_))) (by (with_reducible repeat (first | apply Kd.V_alloc | apply Kd.V_drewN | apply Kd.V_drew)); exact HO198.out) hg hat); have n2_ := Aside0.mk (hb); have n3_ := Aside0.mk (ho); clear HO_0; clear HO198; clear HB; clear HO193; have HO_0 := n0_; have HO198 := n1_; have HB := n2_; have HO201 := n3_; clear n0_ n1_ n2_ n3_; clear ho hb hg hat))
                        go_ret2
                        exact ⟨_, by first | rfl | (simp [errW_none, errW_some] <;> rfl) | (simp [*, errW_none, errW_some] <;> rfl), Kd.V_mono (Kd.R_V (by (with_reducible repeat (first | apply Kd.R_alloc | apply Kd.R_drewN | apply Kd.R_drew)); exact HO201.out)) (fun k_ hk => by first | exact ⟨(.inr (hk.1)), hk.2⟩ | exact (.inr (hk))), by repeat (first | (with_reducible first | exact HB.out | apply below_alloc | apply pw_below_drewN | apply below_drew1) | exact HB.out)⟩
                      · rw [if_neg c25] at H
                        exact absurd H (by simp)
                    · rw [if_neg c24] at H
                      exact absurd H (by simp)
                  · rw [if_neg c23] at H
                    exact absurd H (by simp)
                · rw [if_neg c22] at H
                  exact absurd H (by simp)
  · rw [if_neg c6] at H
    have c6b0 : (t172 == 0) = false := beq_eq_false_iff_ne.mpr c6
    have c6b1 : (t172 != 0) = true := bne_iff_ne.mpr c6
    simp only [Option.some.injEq, Prod.mk.injEq] at H
    obtain ⟨rfl, rfl⟩ := H
    go_enter Tryd.func23, Tryd.ntmps23
    go_wp2_with (first | ((with_reducible refine gate_callee (f := 11) rfl ?_); refine goesL_ (some 14) rfl rfl Tryd.func11 (by kernel_rfl) rfl #[.string a1] rfl (by (try simp only [List.map_toArray, List.map_cons, List.map_nil]); first | done | rfl | (simp only [List.length_drop, List.length_take]; rfl)) ?_; (with_reducible refine (copyholdref06_Check.calls k a1 t172 _ A4.out).mono ?_); rintro e w' ⟨rfl, ⟨nd, rfl⟩⟩; refine ⟨_, rfl, ?_⟩) | ((with_reducible refine gate_callee (f := 19) rfl ?_); refine goesL_ (some 18) rfl rfl Tryd.func19 (by kernel_rfl) rfl #[.slice A0 l0.length c0, .string a1] rfl (by (try simp only [List.map_toArray, List.map_cons, List.map_nil]); first | done | rfl | (simp only [List.length_drop, List.length_take]; rfl)) ?_; (with_reducible refine (copyholdref06_Find.calls k _ _ l0 a1 t173 t174 _ ?side1 ?side2 A5.out).mono ?_); (case side1 => repeat (first | exact (Kd.V_reads' HO0.out).2.2 | (with_reducible refine Kd.C_alloc ?_ _) | (with_reducible refine Kd.C_drewN ?_ _) | (with_reducible refine Kd.C_drew ?_))); (case side2 => exact (Kd.V_reads' HO0.out).2.1); rintro e w' ⟨rfl, ⟨nd, rfl⟩⟩; refine ⟨_, rfl, ?_⟩))
    go_ret2
    exact ⟨_, by first | rfl | (simp [errW_none, errW_some] <;> rfl) | (simp [*, errW_none, errW_some] <;> rfl), by (with_reducible repeat (first | apply Kd.V_alloc | apply Kd.V_drewN | apply Kd.V_drew)); exact HO0.out, by repeat (first | (with_reducible first | exact HB.out | apply below_alloc | apply pw_below_drewN | apply below_drew1) | exact HB.out)⟩

-- GIVEN: function 24 (name_Leave): its Lean function and its contract stand in a text of this session's

end Go.Proofs.YtobjfdebcflocaaDoor.Q
