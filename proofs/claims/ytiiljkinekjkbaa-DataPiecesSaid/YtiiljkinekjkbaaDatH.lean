/- Layer 9 (by dat.py out of layer 3's text): Clean, the whole. -/
import Derived.Test.YtiiljkinekjkbaaDatG
import Derived.RangeFuncBox
set_option linter.unusedVariables false
set_option linter.unusedSimpArgs false
set_option exponentiation.threshold 2000
namespace Go.Proofs.Ytiiljkinekjkbaa
open Go.RowKit Go.Shelf Go.Lib Go.Sort Go.Proofs.YtiiljkinekjkbaaW.PrintWords Flt Math Clean

attribute [local go_sem] run_store_cx
theorem info_span : (Try.prog.info? 57).map (fun i => (i.zero, i.size, i.bytes)) = some (some (.complex .f64 0 0), 1, 16) := by kernel_rfl
set_option maxHeartbeats 4000000 in
set_option maxRecDepth 1000000 in
theorem clean_some (bk o c : Nat) (ss : List SpS) (w : World) (hbk : bk < w.heap.size) (hn : ss.length ≤ 1000000) (hc : ∀ (j : Nat) (hj : j < ss.length), w.cell? ⟨bk, o + j, none⟩ = some (eS ss[j])) :
    Calls Try.prog 30 #[.slice (some ⟨bk, o, none⟩) ss.length c] w fun e w' => ∃ A' c', e = .returned (.slice A' (cleanF (ss.map Subtype.val)).length c') ∧ RdP w' A' (cleanF (ss.map Subtype.val)) ∧ (cleanF (ss.map Subtype.val)).length ≤ c' ∧ Below w.heap.size w w' := by
  obtain ⟨i0, hi0, hz0, hz1, hz2⟩ := info_parts info_span
  have hcl := Try.slices_Clone i0 _ 1 16 hi0 hz0 hz1 hz2 rfl (by decide) Try.sizeOf57 bk o ss.length c (ss.map eS) w (by simp) (by unfold maxLen; omega) (by omega)
    (fun j u hj => by
      rw [List.getElem?_map] at hj
      obtain ⟨s, hs, rfl⟩ := Option.map_eq_some_iff.1 hj
      obtain ⟨hlt, rfl⟩ := List.getElem?_eq_some_iff.1 hs
      exact hc j hlt) (fun u hu => by obtain ⟨s, _, rfl⟩ := List.mem_map.1 hu; rfl)
  have HCL := Lib.hid hcl
  clear hcl hc
  go_enter Try.func30, Try.ntmps30
  go_wp2_with fail
  refine HCL.out.mono ?_
  rintro e w1 ⟨v1, rfl, ho1, hne, hb1⟩
  obtain ⟨g, cap, rfl, hg, hglt, hncap, hcapm, hlen, hH⟩ := holds_of_ownsRow ho1 hne
  have hD := AnyE.slices_DeleteFunc Try.delS eS eS_one (fun s => decide (s.1.2 = 0)) 36 #[] del_enters ⟨(0, 0), by decide⟩ Try.zeroValue57 g 0 cap ss.toArray w1 (del_pred w1) (del_over g 0 _ w1) hH (by simp; omega) (by simpa using hncap)
  change Calls Try.prog 34 _ _ _ at hD
  rw [show ss.toArray.size = ss.length from rfl] at hD
  have HD := Lib.hid hD
  have HO1 := Lib.hid ho1
  have HB1 := Lib.hid hb1
  clear hD ho1 hb1 hH hne HCL
  go_wp2_with fail
  refine HD.out.mono ?_
  rintro e w2 ⟨rfl, q, hw2⟩
  have hfl : (ss.filter fun s => !decide (s.1.2 = 0)).length ≤ ss.length := List.length_filter_le _ _
  have hfm := filter_full ss
  generalize (ss.filter fun s => !decide (s.1.2 = 0)) = fl at *
  have ho2 := ownsRow_putRow (q := q) HO1.out (ys := fl ++ List.replicate (ss.length - fl.length) ⟨(0, 0), by decide⟩) (by rw [List.length_append, List.length_replicate]; omega) hfl
  have hb2 := below_putRow (enc := eS) (q := q) (d := (fl ++ List.replicate (ss.length - fl.length) (⟨(0, 0), by decide⟩ : SpS)).toArray) HB1.out hg
  rw [← hw2] at ho2 hb2
  rw [List.take_left] at ho2
  clear hw2 HD HO1 HB1
  obtain ⟨g', cap', e', hg', hglt2, hncap2, _, _, hH2⟩ := holds_of_ownsRow ho2 (by intro h; cases h)
  obtain ⟨rfl, rfl⟩ : g = g' ∧ cap = cap' := by injection e' with e1 _ e3; injection e1 with e1; injection e1 with e1; exact ⟨e1, e3⟩
  have hS := Any.slices_SortFunc Try.sortS eS eS_one (fun a b : SpS => cmpN a.1.1 b.1.1) swo_cmp 38 #[] g 0 cap fl.toArray w2 cmp_enters (cmp_lays g 0 _ w2) hH2 hglt2 (by simp; omega)
  change Calls Try.prog 37 _ _ _ at hS
  rw [show fl.toArray.size = fl.length from rfl] at hS
  have HS := Lib.hid hS
  have HO2 := Lib.hid ho2
  have HB2 := Lib.hid hb2
  clear hS ho2 hb2 hH2 e' hg' hglt
  go_wp2_with fail
  refine HS.out.mono ?_
  rintro e w3 ⟨rfl, d', m, os, hp, hso, hw3⟩
  obtain ⟨hdl, hdp, hds⟩ := sorted_list (d := fl.toArray) hp hso
  rw [show fl.toArray.toList = fl from rfl] at hdl hdp
  have ho3 := grow_owns (ownsRow_putRow (q := m) HO2.out (ys := d'.toList) hdl (Nat.le_refl _)) os
  have hb3 := grow_below (below_putRow (enc := eS) (q := m) (d := d'.toList.toArray) HB2.out hg) (by have := HB2.out.size; rw [show (putRow eS (Sort.ahead w2 m) g 0 d'.toList.toArray).heap.size = w2.heap.size by simp [putRow, mapBlock, Sort.ahead]]; exact this) os
  rw [show d'.toList.toArray = d' from rfl, show grow (putRow eS (Sort.ahead w2 m) g 0 d') os = w3 from hw3.symm] at ho3 hb3
  rw [List.take_of_length_le (by omega), map_eS] at ho3
  have hres := cleanF_of (l := ss.map Subtype.val) (d := d'.toList.map Subtype.val) (by rw [hfm] at hdp; exact hdp) hds
  have hfit : Fit (d'.toList.map Subtype.val) := fun s hs => by obtain ⟨t, _, rfl⟩ := List.mem_map.1 hs; exact t.2
  have hone : ∀ s ∈ d'.toList.map Subtype.val, 1 ≤ s.2 := fun s hs => by
    rw [hfm] at hdp
    exact full_one _ s (hdp.mem_iff.1 hs)
  have hlen3 : (d'.toList.map Subtype.val).length = fl.length := by rw [List.length_map]; exact hdl
  rw [← hlen3] at ho3
  rw [← hlen3]
  clear hw3 hp hso hdl hdp hds HS HO2 HB2 hfm
  have hrn : (d'.toList.map Subtype.val).length ≤ 1000000 := by omega
  generalize d'.toList.map Subtype.val = rl at *
  have HRES := Lib.hid hres
  have HO3 := Lib.hid ho3
  have HB3 := Lib.hid hb3
  have HFIT := Lib.hid hfit
  have HONE := Lib.hid hone
  clear ho3 hb3 hfit hone hres
  go_wp2_with fail
  go_loopg [4, 17] rl.length (fun gk v4 v17 wx => ∃ i : Nat, i + gk = rl.length ∧ v17 = .int .i64 i ∧ ((i = 0 ∧ v4 = .slice (some ⟨g, 0, none⟩) 0 0) ∨ (0 < i ∧ ∃ g' c', v4 = .slice (some ⟨g', 0, none⟩) (mgAll (rl.take i)).length c' ∧ Hid (wx.ownsRow w3.heap.size 57 1 (.slice (some ⟨g', 0, none⟩) (mgAll (rl.take i)).length c') (mgAll (rl.take i)).length ((mgAll (rl.take i)).map eP)))) ∧ Hid (Below w3.heap.size w3 wx))
  case atStart => exact ⟨0, by omega, rfl, .inl ⟨rfl, rfl⟩, Lib.hid (Below.refl _ _)⟩
  case round =>
    obtain ⟨i, hi, rfl, hv, HW⟩ := hrel
    by_cases hlt : i < rl.length
    · have hd : decide ((i : Int) < (rl.length : Int)) = true := decide_eq_true (by omega)
      cases gk with
      | zero => omega
      | succ k =>
        have hx : w3.cell? ⟨g, i, none⟩ = some (eP rl[i]) := by
          rw [HO3.out.cellAt i (by omega), List.getElem?_map, List.getElem?_eq_getElem hlt]; rfl
        have hx1 := (HW.out.cell (World.block_lt_of_cell? w3 _ hx)).trans hx
        have htk := List.take_succ_eq_append_getElem hlt
        have hfs := HFIT.out _ (List.getElem_mem hlt)
        have hos := HONE.out _ (List.getElem_mem hlt)
        have hle := mgAll_len (rl.take i)
        rw [List.length_take] at hle
        obtain ⟨s, hs⟩ : ∃ s, s = rl[i] := ⟨_, rfl⟩
        rw [← hs] at hx1 htk hfs hos
        have HTK := Lib.hid htk
        clear hx hs htk
        rcases hv with ⟨rfl, rfl⟩ | ⟨hip, g', c', rfl, HOV⟩
        · obtain ⟨f1, f2, hsv⟩ : ∃ f1 f2, eP s = .complex .f64 f1 f2 := ⟨_, _, rfl⟩
          rw [hsv] at hx1
          have HSV := Lib.hid hsv
          clear hsv
          go_wp2_with (at_builtin; refine wpList_append_grows _ rfl _ _ 35 rfl 57 i0 _ 1 16 Try.underlying35 hi0 hz0 hz1 hz2 rfl (by decide) (some ⟨g, 0, none⟩) 0 0 [] rfl (by intro h; cases h) rfl (by intro b _ j u hj; simp at hj) ⟨wr.heap.size, 0, none⟩ 1 1 [.complex .f64 f1 f2] rfl rfl (World.news_of_block (cs := #[.complex .f64 f1 f2]) (t := 57) (fr := (0, 0)) (heap_alloc_new wr _)) (by intro u hu; rw [List.mem_singleton.1 hu]; rfl) (by decide) (by unfold maxLen; omega) (by decide) ?_)
          intro v' w4 hown hgrow
          obtain ⟨g4, c4, rfl⟩ := ownsRow_succ hown
          have HO4 := Lib.hid hown
          have HW4 := Lib.hid (HW.out.trans (((Below.refl wr.heap.size wr).alloc (Nat.le_refl _) (.cells #[.complex .f64 f1 f2] 57)).grown hgrow (by rw [World.size_alloc]; omega) (fun _ e => by cases e) |>.mono HW.out.size))
          clear hown hgrow
          go_wp2_with fail
          go_roundg k
          case measure => omega
          case rel =>
            have e1 : mgAll (rl.take (0 + 1)) = [s] := by rw [HTK.out]; rfl
            refine ⟨1, by omega, rfl, .inr ⟨by omega, g4, c4, by rw [show (1 : Nat) = 0 + 1 from rfl, e1]; rfl, Lib.hid ?_⟩, HW4⟩
            rw [show (1 : Nat) = 0 + 1 from rfl, e1]
            have h4 := HO4.out
            rw [← HSV.out] at h4
            exact own_weaken h4 (by have := HW.out.size; omega)
        · obtain ⟨init, kk, hm1, hm2⟩ := mgAll_snoc (rl.take i) (by
            intro h
            have h2 : (rl.take i).length = 0 := by rw [h]; rfl
            rw [List.length_take] at h2; omega) s
          have hkm : kk ∈ mgAll (rl.take i) := by rw [hm1]; simp
          have hkf : kk.1 + kk.2 ≤ 1099511627776 := mgAll_le _ _ (fun t ht => HFIT.out t (List.mem_of_mem_take ht)) kk hkm
          have hko : 1 ≤ kk.2 := mgAll_one _ (fun t ht => HONE.out t (List.mem_of_mem_take ht)) kk hkm
          have hov := HOV.out
          rw [hm1] at hov
          rw [← HTK.out] at hm2
          have HM2 := Lib.hid hm2
          have hL : (mgAll (rl.take i)).length = init.length + 1 := by rw [hm1]; simp
          rw [hL]
          rw [show (init ++ [kk]).length = init.length + 1 by simp] at hov
          obtain ⟨n0, hn0⟩ : ∃ n0, n0 = init.length := ⟨_, rfl⟩
          rw [← hn0] at hov
          rw [← hn0]
          have hk1 : wr.cell? ⟨g', n0, none⟩ = some (eP kk) := by
            rw [hov.cellAt n0 (by omega), List.getElem?_map, hn0, List.getElem?_append_right (Nat.le_refl _), Nat.sub_self]; rfl
          have hkz := hov.frozenAt n0
          have hgl := hov.lt g' rfl
          have hE := end_good kk.1 kk.2 hkf
          have hA := around_good kk.1 kk.2 s.1 s.2 hkf hfs
          have hAe := around_eq kk s hko hos
          have hn0l : n0 + 1 ≤ 1000000 := by omega
          have HOV2 := Lib.hid hov
          have HN0 := Lib.hid hn0
          clear hov hm1 hm2 HOV hL hkm hn0 hle
          by_cases hcmp : s.1 ≤ kk.1 + kk.2
          · have ho : ∃ q, FloatKind.f64.format.order (fb s.1) (fb (kk.1 + kk.2)) = some q ∧ (q = .lt ∨ q = .eq) := by
              rcases Nat.lt_or_eq_of_le hcmp with h | h
              · exact ⟨_, order_lt (by omega) (by omega) h, .inl rfl⟩
              · exact ⟨_, order_eq (by omega) h, .inr rfl⟩
            obtain ⟨q, ho, hq⟩ := ho
            have hm3 := HM2.out
            rw [if_pos hcmp, hAe] at hm3
            have HM3 := Lib.hid hm3
            unfold sp at hE hA
            rw [show eP s = .complex .f64 (fb s.1) (fb s.2) from rfl] at hx1
            rw [show eP kk = .complex .f64 (fb kk.1) (fb kk.2) from rfl] at hk1
            have hr : eP (aroundX kk.1 kk.2 s.1 s.2, aroundN kk.1 kk.2 s.1 s.2) = .complex .f64 (fb (aroundX kk.1 kk.2 s.1 s.2)) (fb (aroundN kk.1 kk.2 s.1 s.2)) := rfl
            have HR := Lib.hid hr
            clear HM2 hm3 hcmp hAe hkf hko hfs hos hr
            generalize fb (aroundX kk.1 kk.2 s.1 s.2) = r1 at *
            generalize fb (aroundN kk.1 kk.2 s.1 s.2) = r2 at *
            generalize (aroundX kk.1 kk.2 s.1 s.2, aroundN kk.1 kk.2 s.1 s.2) = rr at *
            generalize fb (kk.1 + kk.2) = ke at *
            generalize fb kk.1 = k1 at *
            generalize fb kk.2 = k2 at *
            generalize fb s.1 = s1 at *
            generalize fb s.2 = s2 at *
            have hw1 : wrap64 (((n0 + 1 : Nat) : Int) - 1) = (n0 : Int) := by rw [w64 (by omega) (by omega)]; omega
            have hk0 : decide ((0 : Int) ≤ (n0 : Int)) = true := decide_eq_true (by omega)
            have p1 : (0 : Int) ≤ (n0 : Int) := by omega
            have q1 : (n0 : Int) < ((n0 + 1 : Nat) : Int) := by omega
            rcases hq with rfl | rfl
            · go_wp2_with fail
              refine (hE _).mono ?_
              rintro e w4 ⟨rfl, rfl⟩
              go_wp2_with fail
              refine (hA _).mono ?_
              rintro e w4 ⟨rfl, rfl⟩
              go_wp2_with fail
              go_roundg k
              case measure => omega
              case rel =>
                obtain ⟨ho5, hg5⟩ := HOV2.out.stored n0 (.complex .f64 r1 r2)
                have hB := HW.out.setCell (p := ⟨g', n0, none⟩) hgl.1 (.complex .f64 r1 r2)
                have hlen : (init ++ [rr]).length = n0 + 1 := by rw [HN0.out]; simp
                refine ⟨i + 1, by omega, by congr 1, .inr ⟨by omega, g', c', by rw [HM3.out, hlen], Lib.hid ?_⟩, Lib.hid hB⟩
                rw [HM3.out, hlen]
                have e1 : ((init ++ [kk]).map eP).set n0 (.complex .f64 r1 r2) = (init ++ [rr]).map eP := by
                  rw [← HR.out, List.map_append, List.map_append, List.set_append_right _ _ (by rw [List.length_map, HN0.out]; exact Nat.le_refl _), List.length_map, HN0.out, Nat.sub_self]; rfl
                rw [e1] at ho5
                exact ho5
            · go_wp2_with fail
              refine (hE _).mono ?_
              rintro e w4 ⟨rfl, rfl⟩
              go_wp2_with fail
              refine (hA _).mono ?_
              rintro e w4 ⟨rfl, rfl⟩
              go_wp2_with fail
              go_roundg k
              case measure => omega
              case rel =>
                obtain ⟨ho5, hg5⟩ := HOV2.out.stored n0 (.complex .f64 r1 r2)
                have hB := HW.out.setCell (p := ⟨g', n0, none⟩) hgl.1 (.complex .f64 r1 r2)
                have hlen : (init ++ [rr]).length = n0 + 1 := by rw [HN0.out]; simp
                refine ⟨i + 1, by omega, by congr 1, .inr ⟨by omega, g', c', by rw [HM3.out, hlen], Lib.hid ?_⟩, Lib.hid hB⟩
                rw [HM3.out, hlen]
                have e1 : ((init ++ [kk]).map eP).set n0 (.complex .f64 r1 r2) = (init ++ [rr]).map eP := by
                  rw [← HR.out, List.map_append, List.map_append, List.set_append_right _ _ (by rw [List.length_map, HN0.out]; exact Nat.le_refl _), List.length_map, HN0.out, Nat.sub_self]; rfl
                rw [e1] at ho5
                exact ho5
          · have ho := order_gt (a := s.1) (b := kk.1 + kk.2) (by omega) (by omega) (by omega)
            have hm3 := HM2.out
            rw [if_neg hcmp] at hm3
            have HM3 := Lib.hid hm3
            unfold sp at hE
            rw [show eP kk = .complex .f64 (fb kk.1) (fb kk.2) from rfl] at hk1
            obtain ⟨s1, s2, hsv, hs1⟩ : ∃ s1 s2, eP s = .complex .f64 s1 s2 ∧ fb s.1 = s1 := ⟨_, _, rfl, rfl⟩
            rw [hsv] at hx1
            rw [hs1] at ho
            have HSV := Lib.hid hsv
            clear HM2 hm3 hcmp hAe hkf hko hfs hos hA hsv hs1
            generalize fb (kk.1 + kk.2) = ke at *
            generalize fb kk.1 = k1 at *
            generalize fb kk.2 = k2 at *
            have hw1 : wrap64 (((n0 + 1 : Nat) : Int) - 1) = (n0 : Int) := by rw [w64 (by omega) (by omega)]; omega
            have hk0 : decide ((0 : Int) ≤ (n0 : Int)) = true := decide_eq_true (by omega)
            have p1 : (0 : Int) ≤ (n0 : Int) := by omega
            have q1 : (n0 : Int) < ((n0 + 1 : Nat) : Int) := by omega
            have hxl : (init ++ [kk]).length = n0 + 1 := by rw [HN0.out]; simp
            have hbz := HW.out.size
            go_wp2_with fail
            refine (hE _).mono ?_
            rintro e w4 ⟨rfl, rfl⟩
            go_wp2_with (at_builtin; refine wpList_append_own _ rfl _ _ 35 rfl w3.heap.size 57 i0 _ 1 16 Try.underlying35 hi0 hz0 hz1 hz2 rfl (by decide) (.slice (some ⟨g', 0, none⟩) (n0 + 1) c') (n0 + 1) ((init ++ [kk]).map eP) rfl (HOV2.out.alloc _) ⟨w4.heap.size, 0, none⟩ 1 1 [.complex .f64 s1 s2] rfl rfl (World.news_of_block (cs := #[.complex .f64 s1 s2]) (t := 57) (fr := (0, 0)) (heap_alloc_new w4 _)) (by intro u hu; rw [List.mem_singleton.1 hu]; rfl) (by unfold maxLen; omega) (by omega) (by simp only [World.size_alloc]; omega) ?_)
            intro v' w5 hown hgrow _
            obtain ⟨g5, c5, rfl⟩ := ownsRow_succ hown
            have HO5 := Lib.hid hown
            have HW5 := Lib.hid ((HW.out.alloc HW.out.size (.cells #[.complex .f64 s1 s2] 57)).grown hgrow (by simp only [World.size_alloc]; omega) (fun k hk => by
              have e : g' = k := by simpa [Value.ownBlock] using hk
              omega))
            clear hown hgrow
            go_wp2_with fail
            go_roundg k
            case measure => omega
            case rel =>
              have hlen : (init ++ [kk, s]).length = n0 + 2 := by rw [HN0.out]; simp
              refine ⟨i + 1, by omega, by congr 1, .inr ⟨by omega, g5, c5, by rw [HM3.out, hlen], Lib.hid ?_⟩, HW5⟩
              rw [HM3.out, hlen]
              have h5 := HO5.out
              rw [← HSV.out, show init.map eP ++ [eP kk, eP s] = (init ++ [kk, s]).map eP by simp] at h5
              exact h5
    · obtain rfl : i = rl.length := by omega
      have hd : decide ((rl.length : Int) < (rl.length : Int)) = false := decide_eq_false (by omega)
      rcases hv with ⟨hi0, rfl⟩ | ⟨hip, g', c', rfl, HOV⟩
      · obtain rfl : rl = [] := List.eq_nil_of_length_eq_zero hi0
        go_wp2_with fail
        go_ret
        rw [← HRES.out]
        exact ⟨_, 0, rfl, .inr ⟨g, 0, rfl, by have := HW.out.size; have := HO3.out.lt g rfl; omega, fun j hj => by cases hj⟩, Nat.le_refl _, below_then HB3.out HB3.out.size HW.out⟩
      · go_wp2_with fail
        go_ret
        have hov := HOV.out
        rw [List.take_of_length_le (Nat.le_refl _)] at hov ⊢
        rw [← HRES.out]
        obtain ⟨A, c2, e1, h2, h3⟩ := own_read hov
        rw [e1]
        exact ⟨A, c2, rfl, h2, h3, below_then HB3.out HB3.out.size HW.out⟩
set_option maxHeartbeats 1000000 in
set_option maxRecDepth 1000000 in
theorem index_nil : Gives 42 #[.slice none 0 0, .func (.func 36) #[] #[]] (.int .i64 (-1)) := by
  intro w
  go_enter Try.func42, Try.ntmps42
  go_wp2
  go_loopg [8] 0 (fun gk v8 wx => v8 = .int .i64 0 ∧ wx = w)
  case atStart => exact ⟨rfl, rfl⟩
  case round =>
    obtain ⟨rfl, rfl⟩ := hrel
    go_wp2
    go_ret
    exact ⟨rfl, rfl⟩
theorem delete_nil : Gives 34 #[.slice none 0 0, .func (.func 36) #[] #[]] (.slice none 0 0) := by
  intro w
  go_enter Try.func34, Try.ntmps34
  go_wp2_with fail
  refine (index_nil _).mono ?_
  rintro e w1 ⟨rfl, rfl⟩
  go_wp2_with fail
  go_ret
  exact ⟨rfl, rfl⟩
set_option maxHeartbeats 1000000 in
set_option maxRecDepth 1000000 in
theorem insertion_nil : Gives 46 #[.slice none 0 0, .int .i64 0, .int .i64 0, .func (.func 38) #[] #[]] (.tuple #[]) := by
  intro w
  go_enter Try.func46, Try.ntmps46
  go_wp2
  go_loopg [8] 0 (fun gk v8 wx => v8 = .int .i64 1 ∧ wx = w)
  case atStart => exact ⟨rfl, rfl⟩
  case round =>
    obtain ⟨rfl, rfl⟩ := hrel
    go_wp2
    go_end0
    exact ⟨rfl, rfl⟩
set_option maxHeartbeats 1000000 in
set_option maxRecDepth 1000000 in
theorem pdq_nil (n : Int) : Gives 43 #[.slice none 0 0, .int .i64 0, .int .i64 0, .int .i64 n, .func (.func 38) #[] #[]] (.tuple #[]) := by
  intro w
  go_enter Try.func43, Try.ntmps43
  go_wp2
  go_loopg [1, 2, 3, 10, 11] 0 (fun gk v1 v2 v3 v10 v11 wx => v1 = .int .i64 0 ∧ v2 = .int .i64 0 ∧ wx = w)
  case atStart => exact ⟨rfl, rfl, rfl⟩
  case round =>
    obtain ⟨rfl, rfl, rfl⟩ := hrel
    go_wp2_with fail
    refine (insertion_nil _).mono ?_
    rintro e w1 ⟨rfl, rfl⟩
    go_wp2_with fail
    refine bodyPost_ret (results_none rfl _ _ _) rfl ?_
    exact ⟨rfl, rfl⟩
set_option maxHeartbeats 1000000 in
set_option maxRecDepth 1000000 in
theorem sort_nil : Gives 37 #[.slice none 0 0, .func (.func 38) #[] #[]] (.tuple #[]) := by
  intro w
  have hb := Try.bits_Len 0 w (by decide) (by decide)
  go_enter Try.func37, Try.ntmps37
  go_wp2_with fail
  refine hb.mono ?_
  rintro e w1 ⟨rfl, rfl⟩
  go_wp2_with fail
  refine (pdq_nil _ _).mono ?_
  rintro e w1 ⟨rfl, rfl⟩
  go_wp2_with fail
  go_end0
  exact ⟨rfl, rfl⟩
set_option maxHeartbeats 4000000 in
set_option maxRecDepth 1000000 in
theorem clean_nil (c : Nat) (w : World) :
    Calls Try.prog 30 #[.slice none 0 c] w fun e w' => ∃ A' c', e = .returned (.slice A' 0 c') ∧ RdP w' A' [] ∧ Below w.heap.size w w' := by
  have hcl := Try.slices_Clone_nil 0 c w
  have HCL := Lib.hid hcl
  clear hcl
  go_enter Try.func30, Try.ntmps30
  go_wp2_with fail
  refine HCL.out.mono ?_
  rintro e w1 ⟨rfl, hw1⟩
  subst hw1
  go_wp2_with fail
  refine (delete_nil _).mono ?_
  rintro e w2 ⟨rfl, rfl⟩
  go_wp2_with fail
  refine (sort_nil _).mono ?_
  rintro e w2 ⟨rfl, rfl⟩
  go_wp2_with fail
  go_loopg [4, 17] 0 (fun gk v4 v17 wx => v4 = .slice none 0 0 ∧ v17 = .int .i64 0 ∧ wx = w2)
  case atStart => exact ⟨rfl, rfl, rfl⟩
  case round =>
    obtain ⟨rfl, rfl, rfl⟩ := hrel
    go_wp2
    go_ret
    exact ⟨none, 0, rfl, .inl ⟨rfl, rfl⟩, Below.refl _ _⟩
/-- Clean, at any row of spans. -/
theorem clean_calls (A : Option Addr) (c : Nat) (l : List Sp) (w : World) (h : RdP w A l) (hf : Fit l) (hn : l.length ≤ 1000000) :
    Calls Try.prog 30 #[.slice A l.length c] w fun e w' => ∃ A' c', e = .returned (.slice A' (cleanF l).length c') ∧ RdP w' A' (cleanF l) ∧ (cleanF l).length ≤ c' ∧ Below w.heap.size w w' := by
  rcases h with ⟨rfl, rfl⟩ | ⟨bk, o, rfl, hbk, hc⟩
  · refine (clean_nil c w).mono ?_
    rintro e w' ⟨A', c', rfl, hr, hb⟩
    have e0 : cleanF [] = [] := List.eq_nil_of_length_eq_zero (Nat.le_zero.1 (cleanF_len []))
    rw [e0]
    exact ⟨A', c', rfl, hr, Nat.zero_le _, hb⟩
  · obtain ⟨ss, rfl⟩ := lift_fit l hf
    have hl : (ss.map Subtype.val).length = ss.length := List.length_map ..
    rw [hl] at hn ⊢
    refine clean_some bk o c ss w hbk hn fun j hj => ?_
    rw [hc j (by rw [hl]; exact hj), List.getElem_map]; rfl
end Go.Proofs.Ytiiljkinekjkbaa
