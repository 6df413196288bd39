/- NameOrder, walked. -/
import Derived.Test.YtobjfdebcflocaaDoorNameT
import Derived.Test.YtobjfdebcflocaaDoorQ2
import Derived.Test.YtobjfdebcflocaaDoorQ4
import Derived.Test.YtobjfdebcflocaaDoorQ4
import Derived.Test.YtobjfdebcflocaaDoorQ6
import Derived.Test.YtobjfdebcflocaaDoorQ7
set_option linter.unusedVariables false
set_option linter.unusedSimpArgs false
namespace Go.Proofs.YtobjfdebcflocaaDoor.Q
open Go.RowKit Go.Proofs.YtobjfdebcflocaaDoorW.PrintWords Go.Proofs.YtobjfdebcflocaaDoorW.PrintLast Go.Proofs.YtobjfdebcflocaaDoorW.PrintMore Math Go.Proofs.YtobjfdebcflocaaDoor.Pure

abbrev VV (W : World) (v : Value) (xs : List S56) : Prop := Kd.V k56 56 W 0 (fun _ => True) v xs
theorem vv_of {W : World} {b : Nat} {ok : Nat → Prop} {v : Value} {xs : List S56} (h : Kd.V k56 56 W b ok v xs) : VV W v xs := Kd.V_map h (fun _ hf => Kd.F_mono hf (fun _ _ => trivial))
theorem vv_to {W : World} {b : Nat} {v : Value} {xs : List S56} (h : VV W v xs) : Kd.V k56 56 W b (fun _ => True) v xs := Kd.V_map h (fun _ hf => hf)
/-- Enter, at a row that is only read. -/
theorem enter_vv (A : Option Addr) (c : Nat) (xs : List S56) (s : ByteArray) (ino : Int) (w : World) (hl : xs.length ≤ 1000) (h : VV w (.slice A xs.length c) xs) :
    Calls Tryd.prog 22 #[.slice A xs.length c, .string s, .int .i64 ino] w fun e w' => ∃ (A' : Option Addr) (c' : Nat), e = .returned (.tuple #[.slice A' (enterR xs s ino).1.length c', .int .i64 (enterR xs s ino).2]) ∧ VV w' (.slice A' (enterR xs s ino).1.length c') (enterR xs s ino).1 ∧ Below w.heap.size w w' := by
  refine (name_Enter.calls (fun _ => True) A c xs s ino _ _ w (vv_to h) (name_enter xs s ino (by omega))).mono ?_
  rintro e w' ⟨v, rfl, hv, hb⟩
  obtain ⟨A', c', rfl⟩ := Kd.V_slice hv
  exact ⟨A', c', rfl, vv_of hv, hb⟩
set_option maxHeartbeats 4000000 in
set_option maxRecDepth 1000000 in
theorem order_main (A0 : Option Addr) (c0 : Nat) (l : List ByteArray) (v : Int) (hl : l.length ≤ 30) (hv : v ≤ 2000) (hlong : copyholdref01_Long.f 100 l = some v) (w : World) (hr : Kd.C Kd.string w A0 l.length l) (hc : l.length ≤ c0) :
    Calls Tryd.prog 9 #[.slice A0 l.length c0] w fun e w' => e = .returned (.bool true) ∧ Below w.heap.size w w' := by
  have HR := Lib.hid hr; have HC := Lib.hid hc; have HL := Lib.hid hlong
  have g1 : decide ((30 : Int) < (l.length : Int)) = false := decide_eq_false (by omega)
  have g2 : decide ((2000 : Int) < v) = false := decide_eq_false (by omega)
  clear hr hc hlong
  go_enter Tryd.func9, Tryd.ntmps9
  go_wp2_with fail
  refine (copyholdlaw06_shown.calls true _ shown_eq).mono ?_
  rintro e w1 ⟨rfl, hb1⟩
  have HB1 := Lib.hid hb1
  clear hb1
  go_wp2_with fail
  refine (copyholdref01_Long.calls 100 A0 c0 l v _ (Kd.C_below HR.out HB1.out) HC.out HL.out).mono ?_
  rintro e w2 ⟨rfl, ⟨nd, rfl⟩⟩
  have HB2 := Lib.hid (show Below w.heap.size w (w1.drewN nd) from pw_below_drewN HB1.out nd)
  go_wp2_with fail
  go_loopg [4, 5, 6] l.length (fun gk v4 v5 v6 wx => ∃ (i : Nat) (A B : Option Addr) (ca cb : Nat), i + gk = l.length ∧ v4 = .slice A (adds (l.take i)).length ca ∧ v5 = .slice B (adds (l.reverse.take i)).length cb ∧ v6 = .int .i64 i ∧ Hid (VV wx (.slice A (adds (l.take i)).length ca) (adds (l.take i))) ∧ Hid (VV wx (.slice B (adds (l.reverse.take i)).length cb) (adds (l.reverse.take i))) ∧ Hid (Below w.heap.size w wx))
  case atStart => exact ⟨0, none, none, 0, 0, by omega, rfl, rfl, rfl, Lib.hid (vv_of (Kd.V_nil _ 56 _ 0 (fun _ => True))), Lib.hid (vv_of (Kd.V_nil _ 56 _ 0 (fun _ => True))), Lib.hid HB2.out⟩
  case round =>
    obtain ⟨i, A, B, ca, cb, hi, rfl, rfl, rfl, HVA, HVB, HW⟩ := hrel
    by_cases hlt : i < l.length
    · have hd : decide ((i : Int) < (l.length : Int)) = true := decide_eq_true (by omega)
      cases gk with
      | zero => omega
      | succ k =>
        have p1 : (0 : Int) ≤ (i : Int) := by omega
        have q1 : (i : Int) < (l.length : Int) := by omega
        obtain ⟨ad1, e1, hx1⟩ := Kd.at_string HR.out (i : Int) p1 q1
        cases e1
        replace hx1 := (HW.out.cell (World.block_lt_of_cell? w _ hx1)).trans hx1
        have la : (adds (l.take i)).length ≤ 30 := adds_len _ (by rw [List.length_take]; omega)
        have lb : (adds (l.reverse.take i)).length ≤ 30 := adds_len _ (by rw [List.length_take, List.length_reverse]; omega)
        rw [rdo hlt, Int.toNat_natCast] at hx1
        have ea : (enterR (adds (l.take i)) l[i] 7).1 = adds (l.take (i + 1)) := by rw [List.take_succ_eq_append_getElem hlt, adds_snoc]
        have hm : l.length - 1 - i < l.length := by omega
        have eb : (enterR (adds (l.reverse.take i)) l[l.length - 1 - i] 7).1 = adds (l.reverse.take (i + 1)) := by
          rw [List.take_succ_eq_append_getElem (by rw [List.length_reverse]; exact hlt), adds_snoc, List.getElem_reverse]
        obtain ⟨ad2, e2, hx2⟩ := Kd.at_string HR.out ((l.length - 1 - i : Nat) : Int) (by omega) (by omega)
        cases e2
        rw [rdo hm, Int.toNat_natCast] at hx2
        have hw1 : wrap64 ((l.length : Int) - 1) = (l.length : Int) - 1 := w64 (by omega) (by omega)
        have hw2 : wrap64 ((l.length : Int) - 1 - (i : Int)) = ((l.length - 1 - i : Nat) : Int) := by rw [w64 (by omega) (by omega)]; omega
        have EA := Lib.hid ea; have EB := Lib.hid eb; have HX2 := Lib.hid hx2; have LB := Lib.hid lb
        clear ea eb hx2 lb
        go_wp2_with fail
        refine (enter_vv A ca _ l[i] 7 _ (by omega) HVA.out).mono ?_
        rintro e w3 ⟨A', ca', rfl, hva, hb3⟩
        rw [EA.out] at hva
        have HVA2 := Lib.hid hva
        have HVB2 := Lib.hid (Kd.V_below HVB.out hb3)
        have HW2 := Lib.hid (below_then HW.out HW.out.size hb3)
        have hx2 := (HW2.out.cell (World.block_lt_of_cell? w _ HX2.out)).trans HX2.out
        rw [EA.out]
        clear hva hb3 hx1
        generalize enterR (adds (l.take i)) l[i] 7 = er1 at *
        go_wp2_with fail
        refine (enter_vv B cb _ l[l.length - 1 - i] 7 _ (by have := LB.out; omega) HVB2.out).mono ?_
        rintro e w4 ⟨B', cb', rfl, hvb, hb4⟩
        rw [EB.out] at hvb
        have HVB3 := Lib.hid hvb
        have HVA3 := Lib.hid (Kd.V_below HVA2.out hb4)
        have HW3 := Lib.hid (below_then HW2.out HW2.out.size hb4)
        rw [EB.out]
        clear hvb hb4 hx2
        generalize enterR (adds (l.reverse.take i)) l[l.length - 1 - i] 7 = er2 at *
        go_wp2_with fail
        go_roundg k
        case measure => omega
        case rel => exact ⟨i + 1, _, _, _, _, by omega, rfl, rfl, by congr 1, HVA3, HVB3, HW3⟩
    · obtain rfl : gk = 0 := by omega
      have hd : decide ((i : Int) < (l.length : Int)) = false := decide_eq_false (by omega)
      obtain rfl : i = l.length := by omega
      rw [List.take_of_length_le (Nat.le_refl _)] at HVA
      rw [List.take_of_length_le (by rw [List.length_reverse]; exact Nat.le_refl _), adds_reverse l (by omega)] at HVB
      simp only [List.take_of_length_le (Nat.le_refl l.length), List.take_of_length_le (show l.reverse.length ≤ l.length by rw [List.length_reverse]; exact Nat.le_refl _), adds_reverse l (show l.length ≤ 200 by omega)]
      go_wp2_with fail
      have la : (adds l).length ≤ 30 := adds_len l hl
      have hinv := inv_adds l (by omega)
      have HINV := Lib.hid hinv
      clear hinv
      go_loopg [7] l.length (fun gk v7 wx => ∃ (i : Nat), i + gk = l.length ∧ v7 = .int .i64 i ∧ Hid (VV wx (.slice A (adds l).length ca) (adds l)) ∧ Hid (VV wx (.slice B (adds l).length cb) (adds l)) ∧ Hid (Below w.heap.size w wx))
      case atStart => exact ⟨0, by omega, rfl, HVA, HVB, HW⟩
      case round =>
        clear HVA HVB HW
        obtain ⟨i, hi, rfl, HVA, HVB, HW⟩ := hrel
        by_cases hlt : i < l.length
        · have hd : decide ((i : Int) < (l.length : Int)) = true := decide_eq_true (by omega)
          cases gk with
          | zero => omega
          | succ k =>
            have p1 : (0 : Int) ≤ (i : Int) := by omega
            have q1 : (i : Int) < (l.length : Int) := by omega
            obtain ⟨ad1, e1, hx1⟩ := Kd.at_string HR.out (i : Int) p1 q1
            cases e1
            replace hx1 := (HW.out.cell (World.block_lt_of_cell? w _ hx1)).trans hx1
            rw [rdo hlt, Int.toNat_natCast] at hx1
            have hf := name_find l[i] HINV.out.right.rise (by omega)
            rw [adds_find l (by omega) _ (List.getElem_mem hlt)] at hf
            have HCK := Lib.hid (name_check l[i])
            generalize l[i] = x at *
            cases hbad : badName x with
            | true =>
              rw [hbad, if_pos rfl] at hf HCK
              have HF := Lib.hid hf
              clear hf
              go_wp2_with fail
              refine (name_Find.calls A ca (adds l) x 0 false _ (Kd.V_reads' HVA.out).2.2 (Kd.V_reads' HVA.out).2.1 HF.out).mono ?_
              rintro e w3 ⟨rfl, hb3⟩
              have HVA2 := Lib.hid (Kd.V_below HVA.out hb3)
              have HVB2 := Lib.hid (Kd.V_below HVB.out hb3)
              replace hx1 := (hb3.cell (World.block_lt_of_cell? _ _ hx1)).trans hx1
              have HW2 := Lib.hid (below_then HW.out HW.out.size hb3)
              clear hb3
              go_wp2_with fail
              refine (name_Check.calls x 10 _ HCK.out).mono ?_
              rintro e w4 ⟨rfl, ⟨nd, rfl⟩⟩
              have HVA3 := Lib.hid (Kd.V_drewN HVA2.out nd)
              have HVB3 := Lib.hid (Kd.V_drewN HVB2.out nd)
              have HW3 := Lib.hid (show Below w.heap.size w (w3.drewN nd) from pw_below_drewN HW2.out nd)
              go_wp2_with fail
              go_roundg k
              case measure => omega
              case rel => exact ⟨i + 1, by omega, by congr 1, HVA3, HVB3, HW3⟩
            | false =>
              rw [hbad, if_neg (by decide)] at hf HCK
              have HF := Lib.hid hf
              clear hf
              go_wp2_with fail
              refine (name_Find.calls A ca (adds l) x 7 true _ (Kd.V_reads' HVA.out).2.2 (Kd.V_reads' HVA.out).2.1 HF.out).mono ?_
              rintro e w3 ⟨rfl, hb3⟩
              have HVA2 := Lib.hid (Kd.V_below HVA.out hb3)
              have HVB2 := Lib.hid (Kd.V_below HVB.out hb3)
              replace hx1 := (hb3.cell (World.block_lt_of_cell? _ _ hx1)).trans hx1
              have HW2 := Lib.hid (below_then HW.out HW.out.size hb3)
              clear hb3
              go_wp2_with fail
              refine (name_Check.calls x 0 _ HCK.out).mono ?_
              rintro e w4 ⟨rfl, ⟨nd, rfl⟩⟩
              have HVA3 := Lib.hid (Kd.V_drewN HVA2.out nd)
              have HVB3 := Lib.hid (Kd.V_drewN HVB2.out nd)
              have HW3 := Lib.hid (show Below w.heap.size w (w3.drewN nd) from pw_below_drewN HW2.out nd)
              go_wp2_with fail
              go_roundg k
              case measure => omega
              case rel => exact ⟨i + 1, by omega, by congr 1, HVA3, HVB3, HW3⟩
        · obtain rfl : gk = 0 := by omega
          have hd : decide ((i : Int) < (l.length : Int)) = false := decide_eq_false (by omega)
          have HS := Lib.hid (same_self (adds l) (by omega) 100 (by omega))
          have HRI := Lib.hid (show name_Right.f 20000 (adds l) = some true by rw [name_right _ (by omega) _ (Nat.le_refl _), rightB_of HINV.out.right])
          go_wp2_with fail
          refine (copyholdref06_Same.calls 100 A ca (adds l) B cb (adds l) true _ (Kd.V_reads' HVA.out).2.2 (Kd.V_reads' HVA.out).2.1 (Kd.V_reads' HVB.out).2.2 (Kd.V_reads' HVB.out).2.1 HS.out).mono ?_
          rintro e w3 ⟨rfl, ⟨nd, rfl⟩⟩
          have HVA2 := Lib.hid (Kd.V_drewN HVA.out nd)
          have HW2 := Lib.hid (pw_below_drewN HW.out nd)
          go_wp2_with fail
          refine (name_Right.calls 20000 A ca (adds l) true _ (Kd.V_reads' HVA2.out).2.2 (Kd.V_reads' HVA2.out).2.1 HRI.out).mono ?_
          rintro e w4 ⟨rfl, hb4⟩
          have HVA3 := Lib.hid (Kd.V_below HVA2.out hb4)
          have HW3 := Lib.hid (below_then HW2.out HW2.out.size hb4)
          clear hb4
          go_wp2_with fail
          refine (names_calls A ca (adds l) _ (Kd.V_reads' HVA3.out).2.2 (by omega)).mono ?_
          rintro e w5 ⟨vn, rfl, hrn, hb5⟩
          obtain ⟨An, cn, rfl⟩ := Kd.R_slice hrn
          have HW4 := Lib.hid (below_then HW3.out HW3.out.size hb5)
          have hn : ((((adds l).map (·.f0)).length : Int) == ((adds l).length : Int)) = true := by rw [List.length_map]; exact beq_self_eq_true _
          clear hb5 hrn
          go_wp2_with fail
          go_ret
          exact ⟨rfl, HW4.out⟩
set_option maxHeartbeats 4000000 in
set_option maxRecDepth 1000000 in
theorem order_calls (A0 : Option Addr) (c0 : Nat) (l : List ByteArray) (w : World) (hz : l.length ≤ 140737488351232) (hr : Kd.C Kd.string w A0 l.length l) (hc : l.length ≤ c0) :
    Calls Tryd.prog 9 #[.slice A0 l.length c0] w fun e w' => e = .returned (.bool true) ∧ Below w.heap.size w w' := by
  by_cases hl : l.length ≤ 30
  · obtain ⟨v, hlong⟩ := long_some l (by omega) 100 (by omega)
    by_cases hv : v ≤ 2000
    · exact order_main A0 c0 l v hl hv hlong w hr hc
    · have HR := Lib.hid hr; have HC := Lib.hid hc; have HL := Lib.hid hlong
      have g1 : decide ((30 : Int) < (l.length : Int)) = false := decide_eq_false (by omega)
      have g2 : decide ((2000 : Int) < v) = true := decide_eq_true (by omega)
      clear hr hc hlong
      go_enter Tryd.func9, Tryd.ntmps9
      go_wp2_with fail
      refine (copyholdlaw06_shown.calls true _ shown_eq).mono ?_
      rintro e w1 ⟨rfl, hb1⟩
      have HB1 := Lib.hid hb1
      clear hb1
      go_wp2_with fail
      refine (copyholdref01_Long.calls 100 A0 c0 l v _ (Kd.C_below HR.out HB1.out) HC.out HL.out).mono ?_
      rintro e w2 ⟨rfl, ⟨nd, rfl⟩⟩
      have HB2 := Lib.hid (show Below w.heap.size w (w1.drewN nd) from pw_below_drewN HB1.out nd)
      go_wp2_with fail
      go_ret
      exact ⟨rfl, HB2.out⟩
  · have g1 : decide ((30 : Int) < (l.length : Int)) = true := decide_eq_true (by omega)
    clear hr hc
    go_enter Tryd.func9, Tryd.ntmps9
    go_wp2_with fail
    refine (copyholdlaw06_shown.calls true _ shown_eq).mono ?_
    rintro e w1 ⟨rfl, hb1⟩
    have HB1 := Lib.hid hb1
    clear hb1
    go_wp2_with fail
    go_ret
    exact ⟨rfl, HB1.out⟩
end Go.Proofs.YtobjfdebcflocaaDoor.Q
namespace Go.Proofs.YtobjfdebcflocaaDoor.O
end Go.Proofs.YtobjfdebcflocaaDoor.O
namespace Go.Proofs.YtobjfdebcflocaaDoor
open Go.RowKit Go.Proofs.YtobjfdebcflocaaDoorW.PrintWords Go.Proofs.YtobjfdebcflocaaDoorW.PrintLast Go.Proofs.YtobjfdebcflocaaDoorW.PrintMore
def copyholdlaw06_NameOrder.f (l0 : List ByteArray) : Option Bool := if l0.length ≤ 140737488351232 then some true else none
theorem copyholdlaw06_NameOrder.calls (A0 : Option Addr) (c0 : Nat) (l0 : List ByteArray) (r : Bool) (w : World) (hr0 : Kd.C Kd.string w A0 l0.length l0) (hc0 : l0.length ≤ c0) (h : copyholdlaw06_NameOrder.f l0 = some r) :
    Calls Tryd.prog 9 #[.slice A0 l0.length c0] w fun e w' => e = .returned (.bool r) ∧ Below w.heap.size w w' := by
  unfold copyholdlaw06_NameOrder.f at h
  split at h
  · rename_i hh
    obtain rfl := Option.some.inj h
    exact Q.order_calls A0 c0 l0 w hh hr0 hc0
  · cases h
end Go.Proofs.YtobjfdebcflocaaDoor
