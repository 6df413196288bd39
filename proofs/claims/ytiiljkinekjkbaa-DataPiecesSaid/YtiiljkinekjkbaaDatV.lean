/- Layer 9, walked: the laws' row; DataPieces. -/
import Derived.Test.YtiiljkinekjkbaaDatU
import Derived.Test.YtiiljkinekjkbaaWLast
set_option linter.unusedVariables false
set_option linter.unusedSimpArgs false
set_option exponentiation.threshold 2000
namespace Go.Proofs.Ytiiljkinekjkbaa
open Go.RowKit Go.Shelf Go.Lib Go.Sort Go.Proofs.YtiiljkinekjkbaaW.PrintWords Flt Math Clean

abbrev KP : Kd (Int × Int) := Kd.pair (Kd.int .i64) (Kd.int .i64)
theorem at_pair {w : World} {A : Option Addr} {l : List (Int × Int)} (h : KP.C w A l.length l) (i : Nat) (hi : i < l.length) :
    ∃ ad, A = some ad ∧ w.cell? (ad.add (i * 2)) = some (.int .i64 l[i].1) ∧ w.cell? (ad.add (i * 2 + 1)) = some (.int .i64 l[i].2) := by
  obtain ⟨ad, e, hc⟩ := h.2.2 (by omega)
  obtain ⟨c, hl, ⟨c0, c1, rfl, h0, h1⟩, hcell⟩ := hc i _ (List.getElem?_eq_getElem hi)
  obtain rfl : c0 = [.int .i64 l[i].1] := h0
  obtain rfl : c1 = [.int .i64 l[i].2] := h1
  exact ⟨ad, e, hcell 0 _ rfl, hcell 1 _ rfl⟩
theorem rds_of {w : World} {A : Option Addr} {l : List ByteArray} (h : Kd.string.C w A l.length l) : RdS w A l := by
  by_cases h0 : l.length = 0
  · exact .inl (List.eq_nil_of_length_eq_zero h0)
  · obtain ⟨ad, e, hc⟩ := h.2.2 (by omega)
    have hcell : ∀ (j : Nat) (hj : j < l.length), w.cell? (ad.add j) = some (.string l[j]) := fun j hj => by
      obtain ⟨c, hl, hk, hcell⟩ := hc j _ (List.getElem?_eq_getElem hj)
      obtain rfl : c = [.string l[j]] := hk
      have := hcell 0 _ rfl
      rw [show Kd.string.sz = 1 from rfl, Nat.mul_one, Nat.add_zero] at this
      exact this
    refine .inr ⟨ad, e, ?_, hcell⟩
    have := World.block_lt_of_cell? w _ (hcell 0 (by omega))
    rw [blk_add] at this
    exact this
instance (x n : Int) : Decidable (Good x n) := by unfold Good; infer_instance
def one1 (p : Int × Int) : List Sp := if Good p.1 p.2 then [(p.1.toNat, p.2.toNat)] else []
def rowQ : List (Int × Int) → List Sp
  | [] => []
  | p :: l => one1 p ++ rowQ l
theorem rowQ_app : ∀ (a b : List (Int × Int)), rowQ (a ++ b) = rowQ a ++ rowQ b
  | [], b => rfl
  | p :: a, b => by show one1 p ++ rowQ (a ++ b) = _; rw [rowQ_app a b, ← List.append_assoc]; rfl
theorem rowQ_len : ∀ (l : List (Int × Int)), (rowQ l).length ≤ l.length
  | [] => Nat.le_refl _
  | p :: l => by
    show (one1 p ++ rowQ l).length ≤ _
    have := rowQ_len l
    rw [List.length_append, List.length_cons]
    have h1 : (one1 p).length ≤ 1 := by unfold one1; split <;> simp
    omega
theorem rowQ_fit : ∀ (l : List (Int × Int)), Fit (rowQ l)
  | [] => fun s hs => by cases hs
  | p :: l => fun s hs => by
    rcases List.mem_append.1 (show s ∈ one1 p ++ rowQ l from hs) with h | h
    · unfold one1 at h
      split at h
      · rename_i hg
        rw [List.mem_singleton.1 h]
        unfold Good at hg
        show p.1.toNat + p.2.toNat ≤ _
        omega
      · cases h
    · exact rowQ_fit l s h
set_option maxHeartbeats 4000000 in
set_option maxRecDepth 1000000 in
theorem row_calls (A : Option Addr) (c : Nat) (l : List (Int × Int)) (w : World) (hr : KP.C w A l.length l) (hn : l.length ≤ 1000) :
    Calls Try.prog 20 #[.slice A l.length c] w fun e w' => ∃ A' c', e = .returned (.slice A' (rowQ l).length c') ∧ RdP w' A' (rowQ l) ∧ (rowQ l).length ≤ c' ∧ Below w.heap.size w w' := by
  obtain ⟨i0, hi0, hz0, hz1, hz2⟩ := info_parts info_span
  have HR := Lib.hid hr
  clear hr
  go_enter Try.func20, Try.ntmps20
  go_wp2_with fail
  go_loopg [3, 4] l.length (fun gk v3 v4 wx => ∃ i : Nat, i + gk = l.length ∧ v4 = .int .i64 i ∧ Hid (wx.ownsRow w.heap.size 57 1 v3 (rowQ (l.take i)).length ((rowQ (l.take i)).map eP)) ∧ Hid (Below w.heap.size w wx))
  case atStart => exact ⟨0, by omega, rfl, Lib.hid (World.ownsRow_nil _ _ _ _), Lib.hid (Below.refl _ _)⟩
  case round =>
    obtain ⟨i, hi, rfl, HO, HW⟩ := hrel
    by_cases hlt : i < l.length
    · have hd : decide ((i : Int) < (l.length : Int)) = true := decide_eq_true (by omega)
      cases gk with
      | zero => omega
      | succ k =>
        obtain ⟨ad, hA, hx1, hx2⟩ := at_pair HR.out i hlt
        subst hA
        replace hx1 := (HW.out.cell (World.block_lt_of_cell? w _ hx1)).trans hx1
        replace hx2 := (HW.out.cell (World.block_lt_of_cell? w _ hx2)).trans hx2
        have p1_ : (0 : Int) ≤ (i : Int) := by omega
        have q1_ : (i : Int) < (l.length : Int) := by omega
        have htk : rowQ (l.take (i + 1)) = rowQ (l.take i) ++ one1 l[i] := by
          rw [List.take_succ_eq_append_getElem hlt, rowQ_app]
          show rowQ (l.take i) ++ (one1 l[i] ++ []) = _
          rw [List.append_nil]
        have hle := Nat.le_trans (rowQ_len (l.take i)) (by rw [List.length_take]; exact Nat.min_le_left _ _)
        replace hx2 : wr.cell? ⟨(ad.add (i * 2)).block, (ad.add (i * 2)).off + 1, none⟩ = some (.int .i64 l[i].2) := by rw [← add_field _ _ 1 (by omega)]; exact hx2
        by_cases hg : Good l[i].1 l[i].2
        · have hof := (of_good l[i].1.toNat l[i].2.toNat (by unfold Good at hg; omega)).2
          rw [show ((l[i].1.toNat : Nat) : Int) = l[i].1 from Int.toNat_of_nonneg hg.1, show ((l[i].2.toNat : Nat) : Int) = l[i].2 from Int.toNat_of_nonneg hg.2.2.1] at hof
          have hon : one1 l[i] = [(l[i].1.toNat, l[i].2.toNat)] := if_pos hg
          rw [hon] at htk
          have hxe : (rowQ (l.take i)).map eP ++ [eP (l[i].1.toNat, l[i].2.toNat)] = (rowQ (l.take (i + 1))).map eP := by rw [htk, List.map_append]; rfl
          have hll : (rowQ (l.take (i + 1))).length = (rowQ (l.take i)).length + 1 := by rw [htk, List.length_append]; rfl
          have hrow := HO.out
          unfold sp at hof
          rw [show eP (l[i].1.toNat, l[i].2.toNat) = .complex .f64 (fb l[i].1.toNat) (fb l[i].2.toNat) from rfl] at hxe
          obtain ⟨xs, hxs⟩ : ∃ xs, xs = (rowQ (l.take i)).map eP := ⟨_, rfl⟩
          obtain ⟨L, hL⟩ : ∃ L, L = (rowQ (l.take i)).length := ⟨_, rfl⟩
          rw [← hxs] at hxe hrow
          rw [← hL] at hll hrow hle
          have HOX := Lib.hid hrow; have HXE := Lib.hid hxe; have HLL := Lib.hid hll; have HOF := Lib.hid hof
          clear hrow hxe hll hxs hL hof hon htk HO hg
          generalize fb l[i].1.toNat = f1 at *
          generalize fb l[i].2.toNat = f2 at *
          generalize l[i].1 = p1 at *
          generalize l[i].2 = p2 at *
          go_wp2_with fail
          go_quiet ((go_at_call 31; exact Calls.quiet_of_same (HOF.out _)))
          go_wp2_with (at_builtin; refine wpList_append_own _ rfl _ _ 35 rfl w.heap.size 57 i0 _ 1 16 Try.underlying35 hi0 hz0 hz1 hz2 rfl (by decide) u3 L xs rfl ((pw_own_drewN HOX.out _).alloc _) ⟨(wr.drewN nq).heap.size, 0, none⟩ 1 1 [.complex .f64 f1 f2] rfl rfl (World.news_of_block (cs := #[.complex .f64 f1 f2]) (t := 57) (fr := (0, 0)) (heap_alloc_new _ _)) (by intro u hu; rw [List.mem_singleton.1 hu]; rfl) (by unfold maxLen; omega) (by omega) (by rw [World.size_alloc]; exact Nat.le_succ_of_le HW.out.size) ?_)
          intro v' w5 hown hgrow _
          rw [HXE.out] at hown
          have HO5 := Lib.hid hown
          have HB0 : Hid (Below w.heap.size w (wr.drewN nq)) := Lib.hid (pw_below_drewN HW.out nq)
          have HW5 := Lib.hid ((HB0.out.alloc HB0.out.size (.cells #[.complex .f64 f1 f2] 57)).grown hgrow (by rw [World.size_alloc]; exact Nat.le_succ_of_le HB0.out.size) (fun k hk => (HOX.out.lt k hk).1))
          clear hown hgrow
          go_wp2_with fail
          go_roundg k
          case measure => omega
          case rel => exact ⟨i + 1, by omega, by congr 1, by rw [HLL.out]; exact HO5, HW5⟩
        · have hof := (of_bad l[i].1 l[i].2 hg).2
          have hon : one1 l[i] = [] := if_neg hg
          rw [hon, List.append_nil] at htk
          have HTK := Lib.hid htk; have HOF := Lib.hid hof
          clear hof hon htk hg
          generalize l[i].1 = p1 at *
          generalize l[i].2 = p2 at *
          go_wp2_with fail
          go_quiet ((go_at_call 31; exact Calls.quiet_of_same (HOF.out _)))
          go_wp2_with fail
          go_roundg k
          case measure => omega
          case rel => exact ⟨i + 1, by omega, by congr 1, by rw [HTK.out]; exact Lib.hid (pw_own_drewN HO.out _), Lib.hid (pw_below_drewN HW.out _)⟩
    · obtain rfl : gk = 0 := by omega
      obtain rfl : i = l.length := by omega
      have hd : decide ((l.length : Int) < (l.length : Int)) = false := decide_eq_false (by omega)
      have ho := HO.out
      rw [List.take_of_length_le (by omega)] at ho
      obtain ⟨A', c', e1, h2, h3⟩ := own_read ho
      subst e1
      have H2 := Lib.hid h2
      clear h2 ho HO
      go_wp2_with fail
      go_ret
      exact ⟨A', c', rfl, H2.out, h3, HW.out⟩
set_option maxHeartbeats 4000000 in
set_option maxRecDepth 1000000 in
theorem pieces_main (s t : ByteArray) (A0 : Option Addr) (c0 : Nat) (l : List (Int × Int)) (A1 : Option Addr) (c1 : Nat) (ps : List ByteArray) (w : World) (hst : s.size + t.size ≤ 4000) (hl : l.length ≤ 20)
    (hr0 : KP.C w A0 l.length l) (hr1 : Kd.string.C w A1 ps.length ps) (hps : ∀ p ∈ ps, p.size ≤ 140737488351232) (hpn : ps.length ≤ 140737488351232) (hlo : longW ps ≤ 5000) :
    Calls Try.prog 8 #[.agg #[.string s, .string t, .slice A0 l.length c0, .slice A1 ps.length c1]] w fun e w' => e = .returned (.bool true) ∧ Below w.heap.size w w' := by
  have hr1 := rds_of hr1
  have hsm0 : ps.length ≤ 20 → ∀ p ∈ ps, p.size ≤ 1000000 := fun h p hp => Nat.le_trans (long_small ps hps h hlo p hp) (by decide)
  have hlg := fun w h => long_calls A1 c1 ps w h hpn
  generalize longW ps = lw at *
  have g3 : decide ((5000 : Int) < lw) = false := decide_eq_false (Int.not_lt.2 hlo)
  clear hlo hps
  have g1 : decide ((4000 : Int) < (s.size : Int) + (t.size : Int)) = false := decide_eq_false (by omega)
  have g2 : decide ((20 : Int) < (l.length : Int)) = false := decide_eq_false (by omega)
  have hsh := fun w => shown_calls w
  have hrow := fun w h => row_calls A0 c0 l w h (by omega)
  have hkl := rowQ_len l
  have hkf := rowQ_fit l
  have hkp : (rowQ l).length = ps.length → ∀ p ∈ ps, p.size ≤ 1000000 := fun h => hsm0 (by omega)
  clear hsm0
  generalize rowQ l = k at *
  have hpa := fun A c w ha hb => patch_calls s A A1 c c1 k ps w (by omega) ha hb hkf (by omega) (by omega)
  have hra := fun A c w ha hb => ref_patch_calls s A A1 c c1 k ps w (by omega) ha hb hkf (by omega) (by omega) hkp
  have hun := fun w => unlike_calls s t (by omega) (by omega) w
  have hru := fun w => ref_unlike_calls s t (by omega) (by omega) w
  have hcf : Fit (cleanF (unl s t (max s.size t.size))) := fun x hx => by have := unl_clean_le s t (max s.size t.size) x hx; omega
  have hcn := unl_clean_len s t (max s.size t.size)
  generalize cleanF (unl s t (max s.size t.size)) = cl at *
  have hsm := fun A B c d w ha hb => same_calls A B c d cl w ha hb hcf (by omega)
  have hpi := fun A c w h => pieces_calls s A c k w (by omega) h hkf (by omega)
  have hrp := fun A c w h => ref_pieces_calls s A c k w (by omega) h hkf (by omega)
  have hpl := pcs_len s k
  generalize pcs s k = pk at *
  have hss := fun A B c d w ha hb => strings_calls A B c d pk w ha hb (by omega)
  clear hpl
  generalize (patchR s k ps).1 = q1 at *
  generalize (patchR s k ps).2 = q2 at *
  have hqq : (q1.toList == q1.toList) = true := beq_self_eq_true _
  have HSH := Lib.hid hsh; have HLG := Lib.hid hlg; have HROW := Lib.hid hrow; have HPA := Lib.hid hpa; have HRA := Lib.hid hra; have HUN := Lib.hid hun; have HRU := Lib.hid hru; have HSM := Lib.hid hsm; have HPI := Lib.hid hpi; have HRP := Lib.hid hrp; have HSS := Lib.hid hss; have HR0 := Lib.hid hr0; have HR1 := Lib.hid hr1
  have hsz1 : s.size ≤ 4000 := by omega
  have hsz2 : t.size ≤ 4000 := by omega
  clear hsh hlg hrow hpa hra hun hru hsm hpi hrp hss hr0 hr1 hkp hkf hcf
  go_enter Try.func8, Try.ntmps8
  go_wp2_with fail
  refine (HSH.out _).mono ?_
  rintro e w1 ⟨rfl, hb1⟩
  have HB1 := Lib.hid (below_then ((Below.refl w.heap.size w).alloc (Nat.le_refl _) _) (by rw [World.size_alloc]; exact Nat.le_succ _) hb1)
  have HX0 := Lib.hid (Kd.C_below HR0.out HB1.out); have HX1 := Lib.hid (HR1.out.below HB1.out)
  clear hb1 HSH HR0 HR1
  go_wp2_with fail
  refine (HLG.out _ HX1.out).mono ?_
  rintro e w2 ⟨rfl, hw2⟩
  subst hw2
  clear HLG
  go_wp2_with fail
  refine (HROW.out _ HX0.out).mono ?_
  rintro e w3 ⟨A3, c3, rfl, hr3, hc3, hb3⟩
  have HB3 := Lib.hid (below_then HB1.out HB1.out.size hb3); have HR3 := Lib.hid hr3; have HX3 := Lib.hid (HX1.out.below hb3)
  clear hb3 hr3 HROW HX0 HX1 HB1
  go_wp2_with fail
  refine (HPA.out A3 c3 _ HR3.out HX3.out).mono ?_
  rintro e w4 ⟨rfl, hb4⟩
  have HB4 := Lib.hid (below_then HB3.out HB3.out.size hb4); have HR4 := Lib.hid (HR3.out.below hb4); have HX4 := Lib.hid (HX3.out.below hb4)
  clear hb4 HPA HB3 HR3 HX3
  go_wp2_with fail
  refine (HRA.out A3 c3 _ HR4.out HX4.out).mono ?_
  rintro e w5 ⟨rfl, hb5⟩
  have HB5 := Lib.hid (below_then HB4.out HB4.out.size hb5); have HR5 := Lib.hid (HR4.out.below hb5)
  clear hb5 HRA HB4 HR4 HX4
  go_wp2_with fail
  refine (HUN.out _).mono ?_
  rintro e w6 ⟨A6, c6, rfl, hr6, hc6, hb6⟩
  have HB6 := Lib.hid (below_then HB5.out HB5.out.size hb6); have HR6 := Lib.hid (HR5.out.below hb6); have HU6 := Lib.hid hr6
  clear hb6 hr6 HUN HB5 HR5
  go_wp2_with fail
  refine (HRU.out _).mono ?_
  rintro e w7 ⟨A7, c7, rfl, hr7, hc7, hb7⟩
  have HB7 := Lib.hid (below_then HB6.out HB6.out.size hb7); have HR7 := Lib.hid (HR6.out.below hb7); have HU7 := Lib.hid (HU6.out.below hb7); have HV7 := Lib.hid hr7
  clear hb7 hr7 HRU HB6 HR6 HU6
  go_wp2_with fail
  refine (HSM.out A6 A7 c6 c7 _ HU7.out HV7.out).mono ?_
  rintro e w8 ⟨rfl, hb8⟩
  have HB8 := Lib.hid (below_then HB7.out HB7.out.size hb8); have HR8 := Lib.hid (HR7.out.below hb8)
  clear hb8 HSM HB7 HR7 HU7 HV7
  go_wp2_with fail
  refine (HPI.out A3 c3 _ HR8.out).mono ?_
  rintro e w9 ⟨A9, c9, rfl, hr9, hc9, hb9⟩
  have HB9 := Lib.hid (below_then HB8.out HB8.out.size hb9); have HR9 := Lib.hid (HR8.out.below hb9); have HU9 := Lib.hid hr9
  clear hb9 hr9 HPI HB8 HR8
  go_wp2_with fail
  refine (HRP.out A3 c3 _ HR9.out).mono ?_
  rintro e wa ⟨Aa, ca, rfl, hra, hca, hba⟩
  have HBa := Lib.hid (below_then HB9.out HB9.out.size hba); have HUa := Lib.hid (HU9.out.below hba); have HVa := Lib.hid hra
  clear hba hra HRP HB9 HR9 HU9
  go_wp2_with fail
  refine (HSS.out A9 Aa c9 ca _ HUa.out HVa.out).mono ?_
  rintro e wb ⟨rfl, hbb⟩
  have HBb := Lib.hid (below_then HBa.out HBa.out.size hbb)
  clear hbb HSS HBa HUa HVa
  go_wp2_with fail
  go_ret
  exact ⟨rfl, HBb.out⟩
set_option maxHeartbeats 4000000 in
set_option maxRecDepth 1000000 in
theorem pieces_law (s t : ByteArray) (A0 : Option Addr) (c0 : Nat) (l : List (Int × Int)) (A1 : Option Addr) (c1 : Nat) (ps : List ByteArray) (w : World) (hs : s.size ≤ 140737488351232) (ht : t.size ≤ 140737488351232) (hln : l.length ≤ 140737488351232)
    (hr0 : KP.C w A0 l.length l) (hr1 : Kd.string.C w A1 ps.length ps) (hps : ∀ p ∈ ps, p.size ≤ 140737488351232) (hpn : ps.length ≤ 140737488351232) :
    Calls Try.prog 8 #[.agg #[.string s, .string t, .slice A0 l.length c0, .slice A1 ps.length c1]] w fun e w' => e = .returned (.bool true) ∧ Below w.heap.size w w' := by
  have hsh := fun w => shown_calls w
  have HSH := Lib.hid hsh
  clear hsh
  by_cases h1 : s.size + t.size ≤ 4000
  · have g1 : decide ((4000 : Int) < (s.size : Int) + (t.size : Int)) = false := decide_eq_false (by omega)
    by_cases h2 : l.length ≤ 20
    · by_cases h3 : longW ps ≤ 5000
      · exact pieces_main s t A0 c0 l A1 c1 ps w h1 h2 hr0 hr1 hps hpn h3
      · have g2 : decide ((20 : Int) < (l.length : Int)) = false := decide_eq_false (by omega)
        have g3 : decide ((5000 : Int) < longW ps) = true := decide_eq_true (by omega)
        have hlg := fun w h => long_calls A1 c1 ps w h hpn
        have HLG := Lib.hid hlg; have HR1 := Lib.hid (rds_of hr1)
        clear hlg hr0 hr1 hps h3
        generalize longW ps = lw at *
        go_enter Try.func8, Try.ntmps8
        go_wp2_with fail
        refine (HSH.out _).mono ?_
        rintro e w1 ⟨rfl, hb1⟩
        have HB1 := Lib.hid (below_then ((Below.refl w.heap.size w).alloc (Nat.le_refl _) _) (by rw [World.size_alloc]; exact Nat.le_succ _) hb1)
        have HX1 := Lib.hid (HR1.out.below HB1.out)
        clear hb1 HSH
        go_wp2_with fail
        refine (HLG.out _ HX1.out).mono ?_
        rintro e w2 ⟨rfl, hw2⟩
        subst hw2
        go_wp2_with fail
        go_ret
        exact ⟨rfl, HB1.out⟩
    · have g2 : decide ((20 : Int) < (l.length : Int)) = true := decide_eq_true (by omega)
      clear hr0 hr1 hps
      go_enter Try.func8, Try.ntmps8
      go_wp2_with fail
      refine (HSH.out _).mono ?_
      rintro e w1 ⟨rfl, hb1⟩
      have HB1 := Lib.hid (below_then ((Below.refl w.heap.size w).alloc (Nat.le_refl _) _) (by rw [World.size_alloc]; exact Nat.le_succ _) hb1)
      clear hb1 HSH
      go_wp2_with fail
      go_ret
      exact ⟨rfl, HB1.out⟩
  · have g1 : decide ((4000 : Int) < (s.size : Int) + (t.size : Int)) = true := decide_eq_true (by omega)
    clear hr0 hr1 hps
    go_enter Try.func8, Try.ntmps8
    go_wp2_with fail
    refine (HSH.out _).mono ?_
    rintro e w1 ⟨rfl, hb1⟩
    have HB1 := Lib.hid (below_then ((Below.refl w.heap.size w).alloc (Nat.le_refl _) _) (by rw [World.size_alloc]; exact Nat.le_succ _) hb1)
    clear hb1 HSH
    go_wp2_with fail
    go_ret
    exact ⟨rfl, HB1.out⟩
def copyholdlaw09_DataPieces.f (a0 a1 : ByteArray) (l2 : List (Int × Int)) (l3 : List ByteArray) : Option Bool :=
  if a0.size ≤ 140737488351232 ∧ a1.size ≤ 140737488351232 ∧ l2.length ≤ 140737488351232 ∧ l3.length ≤ 140737488351232 ∧ ∀ p ∈ l3, p.size ≤ 140737488351232 then some true else none
theorem copyholdlaw09_DataPieces.calls (a0 a1 : ByteArray) (A2 : Option Addr) (c2 : Nat) (l2 : List (Int × Int)) (A3 : Option Addr) (c3 : Nat) (l3 : List ByteArray) (r : Bool) (w : World) (hr2 : KP.C w A2 l2.length l2) (hc2 : l2.length ≤ c2) (hr3 : Kd.string.C w A3 l3.length l3) (hc3 : l3.length ≤ c3) (h : copyholdlaw09_DataPieces.f a0 a1 l2 l3 = some r) :
    Calls Try.prog 8 #[.agg #[.string a0, .string a1, .slice A2 l2.length c2, .slice A3 l3.length c3]] w fun e w' => e = .returned (.bool r) ∧ Below w.heap.size w w' := by
  unfold copyholdlaw09_DataPieces.f at h
  split at h
  · rename_i hh
    obtain rfl := Option.some.inj h
    exact pieces_law a0 a1 A2 c2 l2 A3 c3 l3 w hh.1 hh.2.1 hh.2.2.1 hr2 hr3 hh.2.2.2.2 hh.2.2.2.1
  · cases h
end Go.Proofs.Ytiiljkinekjkbaa
