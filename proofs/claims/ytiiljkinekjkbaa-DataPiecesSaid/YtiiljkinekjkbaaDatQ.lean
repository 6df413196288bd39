/- Layer 9, walked: the reference's Same of spans; DataSame, DataMends. -/
import Derived.Test.YtiiljkinekjkbaaDatP
set_option linter.unusedVariables false
set_option linter.unusedSimpArgs false
set_option exponentiation.threshold 2000
namespace Go.Proofs.Ytiiljkinekjkbaa
open Go.RowKit Go.Shelf Go.Lib Go.Sort Go.Proofs.YtiiljkinekjkbaaW.PrintWords Flt Math Clean

set_option maxHeartbeats 4000000 in
set_option maxRecDepth 1000000 in
theorem same_calls (A B : Option Addr) (c d : Nat) (l : List Sp) (w : World) (ha : RdP w A l) (hb : RdP w B l) (hf : Fit l) (hn : l.length ≤ 1000000) :
    Calls Try.prog 22 #[.slice A l.length c, .slice B l.length d] w fun e w' => e = .returned (.bool true) ∧ Below w.heap.size w w' := by
  have HA := Lib.hid ha; have HB := Lib.hid hb; have HF := Lib.hid hf
  clear ha hb hf
  have hne : ((l.length : Int) != (l.length : Int)) = false := by simp
  go_enter Try.func22, Try.ntmps22
  go_wp2_with fail
  go_loopg [5] l.length (fun gk v5 wx => ∃ i : Nat, i + gk = l.length ∧ v5 = .int .i64 i ∧ Hid (Below w.heap.size w wx))
  case atStart => exact ⟨0, by omega, rfl, Lib.hid (Below.refl _ _)⟩
  case round =>
    obtain ⟨i, hi, rfl, HW⟩ := hrel
    by_cases hlt : i < l.length
    · have hd : decide ((i : Int) < (l.length : Int)) = true := decide_eq_true (by omega)
      cases gk with
      | zero => omega
      | succ k =>
        obtain ⟨b1, o1, hA, hx⟩ := HA.out.at_ i hlt
        obtain ⟨b2, o2, hB, hy⟩ := HB.out.at_ i hlt
        subst hA hB
        replace hx := (HW.out.cell (World.block_lt_of_cell? w _ hx)).trans hx
        replace hy := (HW.out.cell (World.block_lt_of_cell? w _ hy)).trans hy
        have hfi := HF.out _ (List.getElem_mem hlt)
        have q1 := order_eq (show l[i].1 < 2 ^ 53 by omega) (rfl : l[i].1 = l[i].1)
        have q2 := order_eq (show l[i].2 < 2 ^ 53 by omega) (rfl : l[i].2 = l[i].2)
        rw [show eP l[i] = .complex .f64 (fb l[i].1) (fb l[i].2) from rfl] at hx hy
        clear hfi
        generalize fb l[i].1 = f1 at *
        generalize fb l[i].2 = f2 at *
        go_wp2_with fail
        go_quiet (fail)
        go_wp2_with fail
        go_roundg k
        case measure => omega
        case rel => exact ⟨i + 1, by omega, by congr 1, by first | exact HW | exact Lib.hid (pw_below_drewN HW.out _)⟩
    · obtain rfl : gk = 0 := by omega
      obtain rfl : i = l.length := by omega
      have hd : decide ((l.length : Int) < (l.length : Int)) = false := decide_eq_false (by omega)
      go_wp2_with fail
      go_ret
      exact ⟨rfl, HW.out⟩
theorem str_eq (a b : ByteArray) (h : a = b) : (a.toList == b.toList) = true := by rw [h, beq_self_eq_true]
theorem str_ne (a b : ByteArray) (h : a ≠ b) : (a.toList == b.toList) = false := by
  rw [beq_eq_false_iff_ne, tl, tl]
  intro k
  exact h (ByteArray.ext (Array.toList_inj.1 k))
set_option maxHeartbeats 4000000 in
set_option maxRecDepth 1000000 in
theorem same_law (s t : ByteArray) (w : World) (hs : s.size ≤ 140737488351232) (ht : t.size ≤ 140737488351232) :
    Calls Try.prog 6 #[.string s, .string t] w fun e w' => e = .returned (.bool true) ∧ Below w.heap.size w w' := by
  have hsh := shown_calls w
  by_cases hg : s.size + t.size ≤ 4000
  · have g1 : decide ((4000 : Int) < (s.size : Int) + (t.size : Int)) = false := decide_eq_false (by omega)
    have gw : wrap64 ((s.size : Int) + (t.size : Int)) = (s.size : Int) + (t.size : Int) := w64 (by omega) (by omega)
    have hcut := fun w => cut_calls s (s.size : Int) w
    rw [cut_same s (by omega)] at hcut
    have hpat := fun w => patch_calls s none none 0 0 [] [] w (by omega) (.inl ⟨rfl, rfl⟩) (.inl rfl) (fun x hx => by cases hx) (by decide) (by decide)
    rw [show patchR s [] [] = (s, 0) from rfl] at hpat
    have hun := fun w => unlike_calls s t (by omega) (by omega) w
    have hll := unl_clean_len s t (max s.size t.size)
    have hq : (((cleanF (unl s t (max s.size t.size))).length : Int) == 0) = (s.toList == t.toList) := by
      have h := unl_none s t
      by_cases hst : s = t
      · rw [str_eq s t hst, h.2 hst]; rfl
      · rw [str_ne s t hst]
        have : (cleanF (unl s t (max s.size t.size))).length ≠ 0 := fun k => hst (h.1 (List.eq_nil_of_length_eq_zero k))
        simp; exact fun k => this (by rw [k]; rfl)
    generalize (cleanF (unl s t (max s.size t.size))) = cl at *
    have HCUT := Lib.hid hcut; have HPAT := Lib.hid hpat; have HUN := Lib.hid hun
    have hss : (s.toList == s.toList) = true := beq_self_eq_true _
    obtain ⟨b, hb⟩ : ∃ b, b = (s.toList == t.toList) := ⟨_, rfl⟩
    rw [← hb] at hq
    replace hb := hb.symm
    clear hcut hpat hun
    cases b
    all_goals
      go_enter Try.func6, Try.ntmps6
      go_wp2_with fail
      refine hsh.mono ?_
      rintro e w1 ⟨rfl, hb1⟩
      have HB1 := Lib.hid hb1
      clear hb1 hsh
      go_wp2_with fail
      refine (HCUT.out w1).mono ?_
      rintro e w2 ⟨rfl, hb2⟩
      have HB2 := Lib.hid (below_then HB1.out HB1.out.size hb2)
      clear hb2 HB1 HCUT
      go_wp2_with fail
      refine (HPAT.out w2).mono ?_
      rintro e w3 ⟨rfl, hb3⟩
      have HB3 := Lib.hid (below_then HB2.out HB2.out.size hb3)
      clear hb3 HB2 HPAT
      go_wp2_with fail
      refine (HUN.out w3).mono ?_
      rintro e w4 ⟨A', c', rfl, _, _, hb4⟩
      have HB4 := Lib.hid (below_then HB3.out HB3.out.size hb4)
      clear hb4 HB3 HUN
      go_wp2_with fail
      go_ret
      exact ⟨rfl, HB4.out⟩
  · have gw : wrap64 ((s.size : Int) + (t.size : Int)) = (s.size : Int) + (t.size : Int) := w64 (by omega) (by omega)
    have g1 : decide ((4000 : Int) < (s.size : Int) + (t.size : Int)) = true := decide_eq_true (by omega)
    go_enter Try.func6, Try.ntmps6
    go_wp2_with fail
    refine hsh.mono ?_
    rintro e w1 ⟨rfl, hb1⟩
    have HB1 := Lib.hid hb1
    clear hb1 hsh
    go_wp2_with fail
    go_ret
    exact ⟨rfl, HB1.out⟩
set_option maxHeartbeats 4000000 in
set_option maxRecDepth 1000000 in
theorem mends_main (s t : ByteArray) (w : World) (hz : s.size = t.size) (hs : s.size ≤ 2000) :
    Calls Try.prog 9 #[.string s, .string t] w fun e w' => e = .returned (.bool true) ∧ Below w.heap.size w w' := by
  have hsh := shown_calls w
  have g0 : ((s.size : Int) != (t.size : Int)) = false := by simp [hz]
  have g1 : decide ((2000 : Int) < (s.size : Int)) = false := decide_eq_false (by omega)
  have hun := fun w => unlike_calls s t (by omega) (by omega) w
  have hun2 := fun w => unlike_calls t s (by omega) (by omega) w
  rw [unl_comm t s, Nat.max_comm t.size s.size] at hun2
  have hll := unl_clean_len s t (max s.size t.size)
  have hfit : Fit (cleanF (unl s t (max s.size t.size))) := fun x hx => by have := unl_clean_le s t (max s.size t.size) x hx; omega
  have hmend := mend s t hz (by omega)
  have hq : (((cleanF (unl s t (max s.size t.size))).length : Int) == 0) = (s.toList == t.toList) := by
    have h := unl_none s t
    by_cases hst : s = t
    · rw [str_eq s t hst, h.2 hst]; rfl
    · rw [str_ne s t hst]
      have : (cleanF (unl s t (max s.size t.size))).length ≠ 0 := fun k => hst (h.1 (List.eq_nil_of_length_eq_zero k))
      simp; exact fun k => this (by rw [k]; rfl)
  generalize (cleanF (unl s t (max s.size t.size))) = cl at *
  have hpl := pcs_len t cl
  have hpc := fun A c w h => pieces_calls t A c cl w (by omega) h hfit (by omega)
  have hpa := fun A B c d w ha hb => patch_calls s A B c d cl (pcs t cl) w (by omega) ha hb hfit (by omega) (by omega)
  rw [hmend] at hpa
  have hsm := fun A B c d w ha hb => same_calls A B c d cl w ha hb hfit (by omega)
  have htt : (t.toList == t.toList) = true := beq_self_eq_true _
  obtain ⟨b, hb⟩ : ∃ b, b = (s.toList == t.toList) := ⟨_, rfl⟩
  rw [← hb] at hq
  replace hb := hb.symm
  have HUN := Lib.hid hun; have HUN2 := Lib.hid hun2; have HPC := Lib.hid hpc; have HPA := Lib.hid hpa; have HSM := Lib.hid hsm
  clear hun hun2 hpc hpa hsm hmend hfit hpl
  generalize pcs t cl = ps at *
  cases b
  all_goals
    go_enter Try.func9, Try.ntmps9
    go_wp2_with fail
    refine hsh.mono ?_
    rintro e w1 ⟨rfl, hb1⟩
    have HB1 := Lib.hid hb1
    clear hb1 hsh
    go_wp2_with fail
    refine (HUN.out w1).mono ?_
    rintro e w2 ⟨A2, c2, rfl, hr2, hc2, hb2⟩
    have HB2 := Lib.hid (below_then HB1.out HB1.out.size hb2); have HR2 := Lib.hid hr2
    clear hb2 HB1 HUN hr2
    go_wp2_with fail
    refine (HPC.out A2 c2 w2 HR2.out).mono ?_
    rintro e w3 ⟨A3, c3, rfl, hr3, hc3, hb3⟩
    have HB3 := Lib.hid (below_then HB2.out HB2.out.size hb3); have HR3 := Lib.hid hr3; have HR2b := Lib.hid (HR2.out.below hb3)
    clear hb3 HB2 HPC hr3 HR2
    go_wp2_with fail
    refine (HPA.out A2 A3 c2 c3 w3 HR2b.out HR3.out).mono ?_
    rintro e w4 ⟨rfl, hb4⟩
    have HB4 := Lib.hid (below_then HB3.out HB3.out.size hb4); have HR4 := Lib.hid (HR2b.out.below hb4)
    clear hb4 HB3 HPA HR3 HR2b
    go_wp2_with fail
    refine (HUN2.out w4).mono ?_
    rintro e w5 ⟨A5, c5, rfl, hr5, hc5, hb5⟩
    have HB5 := Lib.hid (below_then HB4.out HB4.out.size hb5); have HR5 := Lib.hid hr5; have HR4b := Lib.hid (HR4.out.below hb5)
    clear hb5 hr5
    go_wp2_with fail
    refine (HSM.out A5 A2 c5 c2 w5 HR5.out HR4b.out).mono ?_
    rintro e w6 ⟨rfl, hb6⟩
    have HB6 := Lib.hid (below_then HB5.out HB5.out.size hb6)
    clear hb6
    go_wp2_with fail
    go_ret
    exact ⟨rfl, HB6.out⟩
theorem mends_law (s t : ByteArray) (w : World) (hs : s.size ≤ 140737488351232) (ht : t.size ≤ 140737488351232) :
    Calls Try.prog 9 #[.string s, .string t] w fun e w' => e = .returned (.bool true) ∧ Below w.heap.size w w' := by
  by_cases hz : s.size = t.size
  · by_cases hg : s.size ≤ 2000
    · exact mends_main s t w hz hg
    · have hsh := shown_calls w
      have g0 : ((s.size : Int) != (t.size : Int)) = false := by simp [hz]
      have g1 : decide ((2000 : Int) < (s.size : Int)) = true := decide_eq_true (by omega)
      clear hz
      go_enter Try.func9, Try.ntmps9
      go_wp2_with fail
      refine hsh.mono ?_
      rintro e w1 ⟨rfl, hb1⟩
      have HB1 := Lib.hid hb1
      clear hb1 hsh
      go_wp2_with fail
      go_ret
      exact ⟨rfl, HB1.out⟩
  · have hsh := shown_calls w
    have g0 : ((s.size : Int) != (t.size : Int)) = true := by simp; omega
    go_enter Try.func9, Try.ntmps9
    go_wp2_with fail
    refine hsh.mono ?_
    rintro e w1 ⟨rfl, hb1⟩
    have HB1 := Lib.hid hb1
    clear hb1 hsh
    go_wp2_with fail
    go_ret
    exact ⟨rfl, HB1.out⟩
def copyholdlaw09_DataSame.f (a0 a1 : ByteArray) : Option Bool := if a0.size ≤ 140737488351232 ∧ a1.size ≤ 140737488351232 then some true else none
theorem copyholdlaw09_DataSame.calls (a0 a1 : ByteArray) (r : Bool) (w : World) (h : copyholdlaw09_DataSame.f a0 a1 = some r) : Calls Try.prog 6 #[.string a0, .string a1] w fun e w' => e = .returned (.bool r) ∧ Below w.heap.size w w' := by
  unfold copyholdlaw09_DataSame.f at h
  split at h
  · rename_i hh
    obtain rfl := Option.some.inj h
    exact same_law a0 a1 w hh.1 hh.2
  · cases h
def copyholdlaw09_DataMends.f (a0 a1 : ByteArray) : Option Bool := if a0.size ≤ 140737488351232 ∧ a1.size ≤ 140737488351232 then some true else none
theorem copyholdlaw09_DataMends.calls (a0 a1 : ByteArray) (r : Bool) (w : World) (h : copyholdlaw09_DataMends.f a0 a1 = some r) : Calls Try.prog 9 #[.string a0, .string a1] w fun e w' => e = .returned (.bool r) ∧ Below w.heap.size w w' := by
  unfold copyholdlaw09_DataMends.f at h
  split at h
  · rename_i hh
    obtain rfl := Option.some.inj h
    exact mends_law a0 a1 w hh.1 hh.2
  · cases h
end Go.Proofs.Ytiiljkinekjkbaa
namespace Go.Proofs.Ytiiljkinekjkbaa.U
end Go.Proofs.Ytiiljkinekjkbaa.U
