/- SpanClean, walked. -/
import Derived.Test.YtnoognbnkopdnaaSpanK
set_option linter.unusedVariables false
set_option linter.unusedSimpArgs false
set_option exponentiation.threshold 2000
namespace Go.Proofs.Ytnoognbnkopdnaa
open Go.RowKit Go.Shelf Go.Lib Go.Sort Go.Proofs.YtnoognbnkopdnaaW.PrintWords Flt Math Clean

theorem clean_next {l : List Sp} (h : Cl l) (i : Nat) (hi : i + 1 < l.length) : l[i].1 + l[i].2 < l[i + 1].1 := (List.pairwise_iff_getElem.1 h.rise) i (i + 1) (by omega) hi (by omega)
set_option maxHeartbeats 4000000 in
set_option maxRecDepth 1000000 in
theorem clean_main (A0 : Option Addr) (c0 : Nat) (l : List (Int × Int)) (at_ : Int) (w : World) (hl : l.length ≤ 40) (hr : KP.C w A0 l.length l) :
    Calls Try.prog 9 #[.slice A0 l.length c0, .int .i64 at_] w fun e w' => e = .returned (.bool true) ∧ Below w.heap.size w w' := by
  obtain ⟨i0, hi0, hz0, hz1, hz2⟩ := info_parts info_span
  have hrow := row_calls A0 c0 l w hr (by omega)
  have hfk := rowP_fit l
  have hlk0 := rowP_len l
  obtain ⟨f, hf⟩ := has_any at_
  have g1 : decide ((40 : Int) < (l.length : Int)) = false := decide_eq_false (by omega)
  have HROW := Lib.hid hrow
  clear hrow hr
  have hlk : (rowP l).length ≤ 40 := by omega
  clear hlk0
  generalize rowP l = k at *
  have hsp := cleanF_spec k
  have hfc : Fit (cleanF k) := cleanF_le _ k hfk
  have hlc : (cleanF k).length ≤ 40 := Nat.le_trans (cleanF_len k) hlk
  have hcov : cov (cleanF k) = cov k := funext hsp.2
  have hid := cleanF_idem k
  have hrev := cleanF_reverse k
  have hsz : Clean.size (cleanF k) = Clean.size k := by unfold Clean.size; rw [hid]
  have hcc := fun A c w h => clean_calls A c k w h hfk (by omega)
  have hcc2 := fun A c w h => clean_calls A c (cleanF k) w h hfc (by omega)
  have hcc3 := fun A c w h => clean_calls A c k.reverse w h (fun s hs => hfk s (List.mem_reverse.1 hs)) (by rw [List.length_reverse]; omega)
  rw [hid] at hcc2
  rw [hrev] at hcc3
  simp only [List.length_reverse] at hcc3
  have hh1 := fun A c w h => hf A c k w h hfk (by omega)
  have hh2 := fun A c w h => hf A c (cleanF k) w h hfc (by omega)
  rw [hcov] at hh2
  have hs1 := fun A c w h => size_calls A c k w h hfk (by omega)
  have hs2 := fun A c w h => size_calls A c (cleanF k) w h hfc (by omega)
  rw [hsz] at hs2
  have hsm := fun A B c d w ha hb => same_calls A B c d (cleanF k) w ha hb hfc (by omega)
  have hcl := hsp.1
  clear hsp hcov hid hrev hsz hf
  generalize cleanF k = cl at *
  generalize f (cov k) = fb_ at *
  generalize Clean.size k = sz at *
  have HCC := Lib.hid hcc; have HCC2 := Lib.hid hcc2; have HCC3 := Lib.hid hcc3; have HH1 := Lib.hid hh1; have HH2 := Lib.hid hh2; have HS1 := Lib.hid hs1; have HS2 := Lib.hid hs2; have HSM := Lib.hid hsm; have HCL := Lib.hid hcl; have HFC := Lib.hid hfc; have HFK := Lib.hid hfk
  clear hcc hcc2 hcc3 hh1 hh2 hs1 hs2 hsm hcl hfc hfk
  go_enter Try.func9, Try.ntmps9
  go_wp2_with fail
  refine (shown_gives _).mono ?_
  rintro e w0 ⟨rfl, rfl⟩
  go_wp2_with fail
  refine HROW.out.mono ?_
  rintro e w1 ⟨A1, c1, rfl, hr1, hc1, hb1⟩
  have HB1 := Lib.hid hb1; have HR1 := Lib.hid hr1
  clear hb1 hr1 HROW
  go_wp2_with fail
  refine (HCC.out A1 c1 w1 HR1.out).mono ?_
  rintro e w2 ⟨A2, c2, rfl, hr2, hc2, hb2⟩
  have HB2 := Lib.hid (below_then HB1.out HB1.out.size hb2); have HR2 := Lib.hid hr2; have HK2 := Lib.hid (HR1.out.below hb2)
  clear hb2 hr2 HCC HB1 HR1
  go_wp2_with fail
  go_loopg [8, 9] cl.length (fun gk v8 v9 wx => ∃ (i : Nat) (was : Int), i + gk = cl.length ∧ v9 = .int .i64 i ∧ v8 = .int .i64 was ∧ Hid (∀ h : i < cl.length, was < (cl[i].1 : Int)) ∧ wx = w2)
  case atStart => exact ⟨0, -1, by omega, rfl, rfl, Lib.hid (fun h => by omega), rfl⟩
  case round =>
    obtain ⟨i, was, hi, rfl, rfl, HWAS, rfl⟩ := hrel
    by_cases hlt : i < cl.length
    · have hd : decide ((i : Int) < (cl.length : Int)) = true := decide_eq_true (by omega)
      cases gk with
      | zero => omega
      | succ kk =>
        obtain ⟨bk, o, hA, hx⟩ := HR2.out.at_ i hlt
        subst hA
        have hp := (parts_good cl[i].1 cl[i].2 (HFC.out _ (List.getElem_mem hlt))).1
        have h1 := HCL.out.some _ (List.getElem_mem hlt)
        have h2 := HWAS.out hlt
        have h3 := HFC.out _ (List.getElem_mem hlt)
        have h4 : ∀ h : i + 1 < cl.length, ((cl[i].1 : Int) + (cl[i].2 : Int)) < (cl[i + 1].1 : Int) := fun h => by have := clean_next HCL.out i h; omega
        have t1 : decide ((cl[i].2 : Int) < 1) = false := decide_eq_false (by omega)
        have t2 : decide ((cl[i].1 : Int) ≤ was) = false := decide_eq_false (by omega)
        have HP := Lib.hid hp; have H4 := Lib.hid h4
        rw [show eP cl[i] = sp cl[i].1 cl[i].2 from rfl] at hx
        clear hp h4 h1 h2
        obtain ⟨V, hV⟩ : ∃ V, V = sp cl[i].1 cl[i].2 := ⟨_, rfl⟩
        rw [← hV] at hx HP
        clear hV
        have hw : wrap64 ((cl[i].1 : Int) + (cl[i].2 : Int)) = (cl[i].1 : Int) + (cl[i].2 : Int) := w64 (by omega) (by omega)
        clear h3
        go_wp2_with fail
        refine (HP.out _).mono ?_
        rintro e w3 ⟨rfl, rfl⟩
        go_wp2_with fail
        go_roundg kk
        case measure => omega
        case rel => exact ⟨i + 1, (cl[i].1 : Int) + (cl[i].2 : Int), by omega, by congr 1, by rw [hw], H4, rfl⟩
    · obtain rfl : gk = 0 := by omega
      obtain rfl : i = cl.length := by omega
      have hd : decide ((cl.length : Int) < (cl.length : Int)) = false := decide_eq_false (by omega)
      clear HWAS
      have hw1 : wrap64 ((k.length : Int) - 1) = (k.length : Int) - 1 := w64 (by omega) (by omega)
      go_wp2_with fail
      obtain ⟨W2, hW2⟩ : ∃ W2, W2 = wr := ⟨_, rfl⟩
      rw [← hW2] at HB2 HR2 HK2
      rw [← hW2]
      clear hW2
      go_loopg [12, 13] k.length (fun gk v12 v13 wx => ∃ j : Int, j = (gk : Int) - 1 ∧ gk ≤ k.length ∧ v13 = .int .i64 j ∧ Hid (wx.ownsRow W2.heap.size 26 1 v12 (k.length - gk) ((k.reverse.take (k.length - gk)).map eP)) ∧ Hid (Below W2.heap.size W2 wx))
      case atStart => exact ⟨(k.length : Int) - 1, rfl, Nat.le_refl _, by first | rfl | rw [hw1], Lib.hid (by rw [Nat.sub_self]; exact World.ownsRow_nil _ _ _ _), Lib.hid (Below.refl _ _)⟩
      case round =>
        obtain ⟨j, hj, hgk, rfl, HO, HW⟩ := hrel
        cases gk with
        | zero =>
          have hd2 : decide (0 ≤ j) = false := decide_eq_false (by omega)
          have HRB := Lib.hid (own_read (by have := HO.out; rw [Nat.sub_zero, List.take_of_length_le (by rw [List.length_reverse]; exact Nat.le_refl _)] at this; exact this))
          obtain ⟨A3, c3, e3, hr3, hc3⟩ := HRB.out
          rw [List.length_reverse] at e3
          subst e3
          have HR3 := Lib.hid hr3
          have HR2b := Lib.hid (HR2.out.below HW.out)
          have HK2b := Lib.hid (HK2.out.below HW.out)
          have HB3 := Lib.hid (below_then HB2.out HB2.out.size HW.out)
          clear hr3 HRB HO
          go_wp2_with fail
          refine (HH2.out A2 c2 _ HR2b.out).mono ?_
          rintro e w3 ⟨rfl, hb⟩
          have B3 := Lib.hid (below_then HB3.out HB3.out.size hb); have C3 := Lib.hid (HR2b.out.below hb); have K3 := Lib.hid (HK2b.out.below hb); have R3 := Lib.hid (HR3.out.below hb)
          clear hb HB3 HR2b HK2b HR3
          go_wp2_with fail
          refine (HH1.out A1 c1 _ K3.out).mono ?_
          rintro e w4 ⟨rfl, hb⟩
          have B4 := Lib.hid (below_then B3.out B3.out.size hb); have C4 := Lib.hid (C3.out.below hb); have K4 := Lib.hid (K3.out.below hb); have R4 := Lib.hid (R3.out.below hb)
          clear hb B3 C3 K3 R3
          go_wp2_with fail
          refine (HCC2.out A2 c2 _ C4.out).mono ?_
          rintro e w5 ⟨A5, c5, rfl, hr5, hc5, hb⟩
          have B5 := Lib.hid (below_then B4.out B4.out.size hb); have C5 := Lib.hid (C4.out.below hb); have K5 := Lib.hid (K4.out.below hb); have R5 := Lib.hid (R4.out.below hb); have N5 := Lib.hid hr5
          clear hb B4 C4 K4 R4 hr5
          go_wp2_with fail
          refine (HSM.out A5 A2 c5 c2 _ N5.out C5.out).mono ?_
          rintro e w6 ⟨rfl, hb⟩
          have B6 := Lib.hid (below_then B5.out B5.out.size hb); have C6 := Lib.hid (C5.out.below hb); have K6 := Lib.hid (K5.out.below hb); have R6 := Lib.hid (R5.out.below hb)
          clear hb B5 C5 K5 R5 N5
          go_wp2_with fail
          refine (HCC3.out A3 c3 _ R6.out).mono ?_
          rintro e w7 ⟨A7, c7, rfl, hr7, hc7, hb⟩
          have B7 := Lib.hid (below_then B6.out B6.out.size hb); have C7 := Lib.hid (C6.out.below hb); have K7 := Lib.hid (K6.out.below hb); have N7 := Lib.hid hr7
          clear hb B6 C6 K6 R6 hr7
          go_wp2_with fail
          refine (HSM.out A7 A2 c7 c2 _ N7.out C7.out).mono ?_
          rintro e w8 ⟨rfl, hb⟩
          have B8 := Lib.hid (below_then B7.out B7.out.size hb); have C8 := Lib.hid (C7.out.below hb); have K8 := Lib.hid (K7.out.below hb)
          clear hb B7 C7 K7 N7
          go_wp2_with fail
          refine (HS2.out A2 c2 _ C8.out).mono ?_
          rintro e w9 ⟨rfl, hb⟩
          have B9 := Lib.hid (below_then B8.out B8.out.size hb); have K9 := Lib.hid (K8.out.below hb)
          clear hb B8 C8 K8
          go_wp2_with fail
          refine (HS1.out A1 c1 _ K9.out).mono ?_
          rintro e wa ⟨rfl, hb⟩
          have Ba := Lib.hid (below_then B9.out B9.out.size hb)
          clear hb B9 K9
          go_wp2_with fail
          go_ret
          exact ⟨rfl, Ba.out⟩
        | succ m =>
          have hd2 : decide (0 ≤ j) = true := decide_eq_true (by omega)
          obtain rfl : j = (m : Int) := by omega
          clear hj
          have hm : m < k.length := by omega
          obtain ⟨bk, o, hA, hx⟩ := HK2.out.at_ m hm
          subst hA
          replace hx := (HW.out.cell (World.block_lt_of_cell? W2 _ hx)).trans hx
          obtain ⟨f1, f2, hsv⟩ : ∃ f1 f2, eP k[m] = .complex .f64 f1 f2 := ⟨_, _, rfl⟩
          rw [hsv] at hx
          have hin : k.length - (m + 1) < k.reverse.length := by rw [List.length_reverse]; omega
          have htk : (k.reverse.take (k.length - m)).map eP = (k.reverse.take (k.length - (m + 1))).map eP ++ [.complex .f64 f1 f2] := by
            rw [show k.length - m = (k.length - (m + 1)) + 1 by omega, List.take_succ_eq_append_getElem hin, List.map_append, List.map_cons, List.map_nil, List.getElem_reverse, ← hsv]
            congr 3
            congr 1
            omega
          have ho := HO.out
          obtain ⟨xs, hxs⟩ : ∃ xs, xs = (k.reverse.take (k.length - (m + 1))).map eP := ⟨_, rfl⟩
          rw [← hxs] at ho htk
          have HO4 := Lib.hid ho
          have HTK := Lib.hid htk
          clear hxs ho
          have hbz := HW.out.size
          have q1 : (m : Int) < (k.length : Int) := by omega
          clear hsv htk hin
          go_wp2_with (at_builtin; refine wpList_append_own _ rfl _ _ 46 rfl W2.heap.size 26 i0 _ 1 16 Try.underlying46 hi0 hz0 hz1 hz2 rfl (by decide) u12 (k.length - (m + 1)) xs rfl (HO4.out.alloc _) ⟨wr.heap.size, 0, none⟩ 1 1 [.complex .f64 f1 f2] rfl rfl (World.news_of_block (cs := #[.complex .f64 f1 f2]) (t := 26) (fr := (0, 0)) (heap_alloc_new wr _)) (by intro u hu; rw [List.mem_singleton.1 hu]; rfl) (by unfold maxLen; omega) (by omega) (by simp only [World.size_alloc]; omega) ?_)
          intro v' w5 hown hgrow _
          rw [← HTK.out, show k.length - (m + 1) + 1 = k.length - m by omega] at hown
          have HO5 := Lib.hid hown
          have HW5 := Lib.hid ((HW.out.alloc HW.out.size (.cells #[.complex .f64 f1 f2] 26)).grown hgrow (by simp only [World.size_alloc]; omega) (fun k hk => (HO4.out.lt k hk).1))
          clear hown hgrow
          go_wp2_with fail
          go_roundg m
          case measure => omega
          case rel => exact ⟨(m : Int) - 1, rfl, by omega, by first | rfl | (congr 1; done) | (congr 1; rw [w64 (by omega) (by omega)]), HO5, HW5⟩
set_option maxHeartbeats 4000000 in
set_option maxRecDepth 1000000 in
theorem clean_law (A0 : Option Addr) (c0 : Nat) (l : List (Int × Int)) (at_ : Int) (w : World) (hz : l.length ≤ 140737488351232) (hr : KP.C w A0 l.length l) :
    Calls Try.prog 9 #[.slice A0 l.length c0, .int .i64 at_] w fun e w' => e = .returned (.bool true) ∧ Below w.heap.size w w' := by
  by_cases hl : l.length ≤ 40
  · exact clean_main A0 c0 l at_ w hl hr
  · have g1 : decide ((40 : Int) < (l.length : Int)) = true := decide_eq_true (by omega)
    clear hr
    go_enter Try.func9, Try.ntmps9
    go_wp2_with fail
    refine (shown_gives _).mono ?_
    rintro e w1 ⟨rfl, rfl⟩
    go_wp2_with fail
    go_ret
    exact ⟨rfl, Below.refl _ _⟩
end Go.Proofs.Ytnoognbnkopdnaa
namespace Go.Proofs.Ytnoognbnkopdnaa.Q
end Go.Proofs.Ytnoognbnkopdnaa.Q
namespace Go.Proofs.Ytnoognbnkopdnaa
open Go.RowKit Go.Shelf Go.Lib Go.Sort Go.Proofs.YtnoognbnkopdnaaW.PrintWords Flt Math Clean
def copyholdlaw03_SpanClean.f (l0 : List (Int × Int)) (a1 : Int) : Option Bool := if l0.length ≤ 140737488351232 then some true else none
theorem copyholdlaw03_SpanClean.calls (A0 : Option Addr) (c0 : Nat) (l0 : List (Int × Int)) (a1 : Int) (r : Bool) (w : World) (hr0 : KP.C w A0 l0.length l0) (hc0 : l0.length ≤ c0) (h : copyholdlaw03_SpanClean.f l0 a1 = some r) :
    Calls Try.prog 9 #[.slice A0 l0.length c0, .int .i64 a1] w fun e w' => e = .returned (.bool r) ∧ Below w.heap.size w w' := by
  unfold copyholdlaw03_SpanClean.f at h
  split at h
  · rename_i hh
    obtain rfl := Option.some.inj h
    exact clean_law A0 c0 l0 a1 w hh hr0
  · cases h
end Go.Proofs.Ytnoognbnkopdnaa
