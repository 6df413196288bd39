/- SpanSizes, walked. -/
import Derived.Test.YtnoognbnkopdnaaSpanK
set_option linter.unusedVariables false
set_option linter.unusedSimpArgs false
set_option exponentiation.threshold 2000
namespace Go.Proofs.Ytnoognbnkopdnaa
open Go.RowKit Go.Shelf Go.Lib Go.Sort Go.Proofs.YtnoognbnkopdnaaW.PrintWords Flt Math Clean

theorem size_nil : Clean.size [] = 0 := by
  have := size_le 0 [] (fun s hs => by cases hs)
  have e : total [] = 0 := rfl
  omega
theorem total_most : ∀ (q : List Sp), Fit q → total q ≤ q.length * 1099511627776 := by
  intro q hq
  induction q with
  | nil => exact Nat.zero_le _
  | cons t q ih =>
    have h6 := ih fun u hu => hq u (List.mem_cons_of_mem _ hu)
    have h7 := hq t (List.mem_cons_self ..)
    unfold total at *
    rw [List.map_cons, List.sum_cons, List.length_cons, Nat.add_mul]; omega
theorem total_small (k : List Sp) (h : Fit k) (hk : k.length ≤ 40) (i : Nat) : total (k.take i) ≤ 54975581388800 := by
  have h8 := total_most (k.take i) (fun t ht => h t (List.mem_of_mem_take ht))
  have h9 : (k.take i).length ≤ 50 := by rw [List.length_take]; omega
  exact Nat.le_trans h8 (Nat.mul_le_mul_right 1099511627776 h9)
theorem wrap_sum (a b c : Nat) (h : c = a + b) (hc : c ≤ 54975581388800) : wrap64 ((a : Int) + (b : Int)) = (c : Int) := by rw [h, w64 (by omega) (by omega)]; omega
theorem add_none (bk o j : Nat) : (⟨bk, o, none⟩ : Addr).add j = ⟨bk, o + j, none⟩ := by
  unfold Addr.add
  split
  · rename_i h; subst h; rfl
  · rfl
theorem alloc_cell (W : World) (h : Nat) (hh : h = W.heap.size) (v : Value) (cs : Array Value) (t : TypeId) : (W.alloc (.cells (#[v] ++ cs) t)).drew.cell? ⟨h, 0, none⟩ = some v := by
  subst hh
  exact (blk_cell (heap_alloc_new W (.cells (#[v] ++ cs) t)) 0).trans (by rw [Array.getElem?_append_left (by simp)]; rfl)
set_option maxHeartbeats 1000000 in
set_option maxRecDepth 1000000 in
theorem row_nil (A : Option Addr) (c : Nat) : Gives 25 #[.slice A 0 c] (.slice none 0 0) := by
  intro w
  go_enter Try.func25, Try.ntmps25
  go_wp2
  go_loopg [3, 4] 0 (fun gk v3 v4 wx => v3 = .slice none 0 0 ∧ v4 = .int .i64 0 ∧ wx = w)
  case atStart => exact ⟨rfl, rfl, rfl⟩
  case round =>
    obtain ⟨rfl, rfl, rfl⟩ := hrel
    go_wp2
    go_ret
    exact ⟨rfl, rfl⟩
set_option maxHeartbeats 4000000 in
set_option maxRecDepth 1000000 in
theorem sizes_main (A0 : Option Addr) (c0 : Nat) (l : List (Int × Int)) (m0 m1 : Int) (w : World) (hl : l.length ≤ 40) (h0 : l ≠ []) (hr : KP.C w A0 l.length l) :
    Calls Try.prog 8 #[.slice A0 l.length c0, .agg #[.int .i64 m0, .int .i64 m1]] w fun e w' => e = .returned (.bool true) ∧ Below w.heap.size w w' := by
  obtain ⟨i0, hi0, hz0, hz1, hz2⟩ := info_parts info_span
  obtain ⟨W1, hW1⟩ : ∃ W1, W1 = w.alloc (.cells #[.int .i64 m0, .int .i64 m1] 29) := ⟨_, rfl⟩
  have hb1 : Below w.heap.size w W1 := by rw [hW1]; exact (Below.refl _ w).alloc (Nat.le_refl _) _
  have hd1 : W1.heap[w.heap.size]? = some (.cells #[.int .i64 m0, .int .i64 m1] 29 (0, 0)) := by rw [hW1]; exact heap_alloc_new w _
  have hs1 : W1.heap.size = w.heap.size + 1 := by rw [hW1]; simp
  have hrow := row_calls A0 c0 l W1 (Kd.C_below hr hb1) (by omega)
  have hfk := rowP_fit l
  have hlk0 := rowP_len l
  have hl1 : 1 ≤ l.length := by
    cases l with
    | nil => exact absurd rfl h0
    | cons a b => simp
  have g1 : decide ((40 : Int) < (l.length : Int)) = false := decide_eq_false (by omega)
  have hlk : (rowP l).length ≤ 40 := by omega
  have hlk1 : 1 ≤ (rowP l).length := by omega
  have hgv := given_gives m0 m1
  have hgo := giv_ok m0 m1
  have hpp := (parts_good (givX m0 m1) (givN m0 m1) hgo).2
  obtain ⟨s, hs⟩ : ∃ s : Sp, s = (givX m0 m1, givN m0 m1) := ⟨_, rfl⟩
  have hso : s.1 + s.2 ≤ 1099511627776 := by rw [hs]; exact hgo
  rw [show givX m0 m1 = s.1 by rw [hs], show givN m0 m1 = s.2 by rw [hs]] at hgv hpp
  have HROW := Lib.hid hrow
  clear hrow hr hlk0 hgo hs h0
  generalize rowP l = k at *
  have hsz := fun A c w h => size_calls A c k w h hfk (by omega)
  have hf2 : Fit (k ++ [s]) := fun t ht => by
    rcases List.mem_append.1 ht with ht | ht
    · exact hfk t ht
    · rw [List.mem_singleton.1 ht]; exact hso
  have hsz2 := fun A c w h => size_calls A c (k ++ [s]) w h hf2 (by rw [List.length_append, List.length_singleton]; omega)
  simp only [List.length_append, List.length_singleton] at hsz2
  have hle := size_le 1099511627776 k hfk
  have hone := size_one 1099511627776 k hfk
  have hsn := size_snoc 1099511627776 k s hfk hso
  have hsm := size_most k hfk
  have hsm2 := size_most _ hf2
  generalize Clean.size (k ++ [s]) = z2 at *
  generalize Clean.size k = z1 at *
  have HLE := Lib.hid hle; have HSN := Lib.hid hsn; have HSM := Lib.hid hsm; have HSM2 := Lib.hid hsm2; have HSO := Lib.hid hso
  clear hle hsn hsm hsm2 hso
  have HSZ := Lib.hid hsz; have HSZ2 := Lib.hid hsz2; have HFK := Lib.hid hfk; have HONE := Lib.hid hone; have HD1 := Lib.hid hd1; have HB1 := Lib.hid hb1; have HW1 := Lib.hid hW1
  have HGV : Hid (∀ W : World, Calls Try.prog 13 #[.int .i64 m0, .int .i64 m1] W fun e w' => e = .returned (sp s.1 s.2) ∧ w' = W) := Lib.hid hgv
  have HPP := Lib.hid hpp
  have htt := starts_le 1099511627776 k hfk
  clear hsz hsz2 hfk hf2 hone hd1 hb1 hW1 hgv hpp htt
  go_enter Try.func8, Try.ntmps8
  go_wp2_with fail
  rw [← HW1.out]
  refine (shown_gives _).mono ?_
  rintro e W1_ ⟨rfl, hw0⟩
  subst hw0
  go_wp2_with fail
  refine HROW.out.mono ?_
  rintro e w2 ⟨A1, c1, rfl, hr1, hc1, hb2⟩
  have HB2 := Lib.hid (below_then HB1.out HB1.out.size hb2); have HR2 := Lib.hid hr1; have HBW := Lib.hid hb2
  clear hb2 hr1 HROW
  go_wp2_with fail
  refine (HSZ.out A1 c1 w2 HR2.out).mono ?_
  rintro e w3 ⟨rfl, hb⟩
  have HB3 := Lib.hid (below_then HB2.out HB2.out.size hb); have HR3 := Lib.hid (HR2.out.below hb); have HBW3 := Lib.hid (below_then HBW.out HBW.out.size hb)
  clear hb HB2 HR2 HSZ HBW
  go_wp2_with fail
  go_loopg [8, 9] k.length (fun gk v8 v9 wx => ∃ i : Nat, i + gk = k.length ∧ v9 = .int .i64 i ∧ v8 = .int .i64 (total (k.take i) : Nat) ∧ wx = w3)
  case atStart => exact ⟨0, by omega, rfl, rfl, rfl⟩
  case round =>
    obtain ⟨i, hi, rfl, rfl, rfl⟩ := hrel
    by_cases hlt : i < k.length
    · have hd : decide ((i : Int) < (k.length : Int)) = true := decide_eq_true (by omega)
      cases gk with
      | zero => omega
      | succ kk =>
        obtain ⟨bk, o, hA, hx⟩ := HR3.out.at_ i hlt
        subst hA
        have hp := (parts_good k[i].1 k[i].2 (HFK.out _ (List.getElem_mem hlt))).2
        have h1 := HONE.out _ (List.getElem_mem hlt)
        have h3 := HFK.out _ (List.getElem_mem hlt)
        have htk : total (k.take (i + 1)) = total (k.take i) + k[i].2 := by rw [List.take_succ_eq_append_getElem hlt, total_snoc]
        have htl := total_small k HFK.out hlk (i + 1)
        have hw := wrap_sum _ _ _ htk htl
        have t1 : decide ((z1 : Int) < (k[i].2 : Int)) = false := decide_eq_false (Int.not_lt.2 (Int.ofNat_le.2 h1))
        have t2 : decide (z1 < k[i].2) = false := decide_eq_false (Nat.not_lt.2 h1)
        have t3 : ¬ (z1 < k[i].2) := Nat.not_lt.2 h1
        have HP := Lib.hid hp
        rw [show eP k[i] = sp k[i].1 k[i].2 from rfl] at hx
        clear hp h1 h3 htk htl
        obtain ⟨V, hV⟩ : ∃ V, V = sp k[i].1 k[i].2 := ⟨_, rfl⟩
        rw [← hV] at hx HP
        clear hV
        generalize htt : total (k.take (i + 1)) = tt at *
        have HTT := Lib.hid htt
        clear htt
        generalize total (k.take i) = t0 at *
        generalize k[i].1 = x1 at *
        generalize k[i].2 = x2 at *
        go_wp2_with fail
        refine (HP.out _).mono ?_
        rintro e w4 ⟨rfl, rfl⟩
        go_wp2_with fail
        go_roundg kk
        case measure => omega
        case rel => exact ⟨i + 1, by omega, by congr 1, by rw [hw, HTT.out], rfl⟩
    · obtain rfl : gk = 0 := by omega
      obtain rfl : i = k.length := by omega
      have hd : decide ((k.length : Int) < (k.length : Int)) = false := decide_eq_false (by omega)
      rw [List.take_of_length_le (Nat.le_refl _)]
      have hq0 : W1_.cell? ⟨w.heap.size, 0, none⟩ = some (.int .i64 m0) := (blk_cell HD1.out 0).trans rfl
      have hq1 : W1_.cell? ⟨w.heap.size, 1, none⟩ = some (.int .i64 m1) := (blk_cell HD1.out 1).trans rfl
      have hlt1 := World.block_lt_of_cell? _ _ hq0
      replace hq0 := (HBW3.out.cell (p := ⟨w.heap.size, 0, none⟩) hlt1).trans hq0
      replace hq1 := (HBW3.out.cell (p := ⟨w.heap.size, 1, none⟩) hlt1).trans hq1
      have hkne : k ≠ [] := by
        intro h
        rw [h] at hlk1
        exact absurd hlk1 (by decide)
      obtain ⟨bk, o, hA, hbk, hcells⟩ : ∃ bk o, A1 = some ⟨bk, o, none⟩ ∧ bk < wr.heap.size ∧ ∀ (j : Nat) (hj : j < k.length), wr.cell? ⟨bk, o + j, none⟩ = some (eP k[j]) := by
        rcases HR3.out with ⟨_, h⟩ | h
        · exact absurd h hkne
        · exact h
      subst hA
      have hnews : ∀ W : World, Below wr.heap.size wr W → ∀ j u, (k.map eP)[j]? = some u → W.cell? ((⟨bk, o, none⟩ : Addr).add j) = some u := by
        intro W hW j u hj
        rw [List.getElem?_map] at hj
        obtain ⟨t, ht, rfl⟩ := Option.map_eq_some_iff.1 hj
        obtain ⟨hlt, rfl⟩ := List.getElem?_eq_some_iff.1 ht
        rw [add_none]
        exact (hW.cell (p := ⟨bk, o + j, none⟩) hbk).trans (hcells j hlt)
      have HNEWS := Lib.hid hnews
      have HCAST := Lib.hid (show (eP s) = .complex .f64 (fb s.1) (fb s.2) from rfl)
      obtain ⟨xs, hxs⟩ : ∃ xs, xs = k.map eP := ⟨_, rfl⟩
      have hxl : xs.length = k.length := by rw [hxs, List.length_map]
      have hx1 : ∀ u ∈ xs, u.oneCell' = true := by rw [hxs]; intro u hu; obtain ⟨t, _, rfl⟩ := List.mem_map.1 hu; rfl
      have HXS := Lib.hid hxs
      have HX1 := Lib.hid hx1
      have HXL := Lib.hid hxl
      clear hlt1 hkne hcells hnews hxs hxl hx1 hd
      have HGV2 := HGV
      unfold sp at HGV2 HPP
      generalize fb s.1 = f1 at *
      generalize fb s.2 = f2 at *
      go_wp2_with fail
      refine (HGV2.out _).mono ?_
      rintro e w4 ⟨rfl, hw4⟩
      subst hw4
      go_wp2_with fail
      refine (HPP.out _).mono ?_
      rintro e w4 ⟨rfl, hw4⟩
      subst hw4
      go_wp2_with (at_builtin; refine wpList_append_own _ rfl _ _ 46 rfl _ 26 i0 _ 1 16 Try.underlying46 hi0 hz0 hz1 hz2 rfl (by decide) (.slice (some ⟨_, 0, none⟩) 0 0) 0 [] rfl (World.ownsRow_made _ #[] 0 (Nat.le_refl _) (Nat.zero_le _) (by simp)) ⟨bk, o, none⟩ k.length c1 xs rfl (by rw [HXL.out, Nat.mul_one]) (by rw [HXS.out]; exact HNEWS.out _ ((Below.refl _ _).alloc (Nat.le_refl _) _)) HX1.out (by unfold maxLen; omega) (by omega) (by rw [World.size_alloc]; exact Nat.le_succ _) ?_)
      intro v5 w5 hown hgrow _
      have hz4 : (w4.alloc (.cells #[] 26)).heap.size = w4.heap.size + 1 := World.size_alloc _ _
      have HB5 := Lib.hid ((HB3.out.alloc HB3.out.size (.cells #[] 26)).grown hgrow (by rw [hz4]; exact Nat.le_succ_of_le HB3.out.size) (fun j hj => by
        have e : w4.heap.size = j := by simpa [Value.ownBlock] using hj
        rw [← e]; exact HB3.out.size))
      have hw45 : w4.heap.size ≤ w5.heap.size := by have := hgrow.size; rw [hz4] at this; exact Nat.le_of_succ_le this
      have HO5 := Lib.hid hown
      clear hown hgrow hz4
      go_wp2_with (at_builtin; refine wpList_append_own _ rfl _ _ 46 rfl w4.heap.size 26 i0 _ 1 16 Try.underlying46 hi0 hz0 hz1 hz2 rfl (by decide) v5 k.length xs rfl (HO5.out.alloc _) ⟨w5.heap.size, 0, none⟩ 1 1 [.complex .f64 f1 f2] rfl rfl (World.news_of_block (cs := #[.complex .f64 f1 f2]) (t := 26) (fr := (0, 0)) (heap_alloc_new w5 _)) (by intro u hu; rw [List.mem_singleton.1 hu]; rfl) (by unfold maxLen; omega) (by omega) (by rw [World.size_alloc]; exact Nat.le_succ_of_le hw45) ?_)
      intro v6 w6 hown hgrow _
      have hz5 : (w5.alloc (.cells #[.complex .f64 f1 f2] 26)).heap.size = w5.heap.size + 1 := World.size_alloc _ _
      have HB6 := Lib.hid ((HB5.out.alloc HB5.out.size (.cells #[.complex .f64 f1 f2] 26)).grown hgrow (by rw [hz5]; exact Nat.le_succ_of_le HB5.out.size) (fun j hj => Nat.le_trans HB3.out.size (HO5.out.lt j hj).1))
      rw [HXS.out, ← HCAST.out, show k.map eP ++ [eP s] = (k ++ [s]).map eP by rw [List.map_append]; rfl] at hown
      obtain ⟨A6, c6, e6, hr6, hc6⟩ := own_read hown
      rw [List.length_append, List.length_singleton] at e6
      subst e6
      have HR6 := Lib.hid hr6
      clear hown hgrow hz5 hr6 hc6
      go_wp2_with fail
      refine (HSZ2.out A6 c6 w6 HR6.out).mono ?_
      rintro e w7 ⟨rfl, hb⟩
      have HB7 := Lib.hid (below_then HB6.out HB6.out.size hb)
      have e1 : decide ((z1 : Int) ≤ (total k : Int)) = true := decide_eq_true (Int.ofNat_le.2 HLE.out)
      have e2 : decide ((z1 : Int) ≤ (z2 : Int)) = true := decide_eq_true (Int.ofNat_le.2 HSN.out.1)
      have hws : wrap64 ((z1 : Int) + (s.2 : Int)) = ((z1 + s.2 : Nat) : Int) := by
        have h1 := HSM.out; have h2 := HSO.out
        rw [w64 (by omega) (by omega)]; omega
      have e3 : decide ((z2 : Int) ≤ ((z1 + s.2 : Nat) : Int)) = true := decide_eq_true (Int.ofNat_le.2 HSN.out.2)
      have e4 : (z2 : Int) ≤ (z1 : Int) + (s.2 : Int) := by have := HSN.out.2; omega
      clear hb HB6
      have e5 : z1 ≤ total k := HLE.out
      have e6 : z1 ≤ z2 := HSN.out.1
      go_wp2_with fail
      all_goals go_ret
      all_goals first | exact ⟨rfl, HB7.out⟩ | exact ⟨by rw [decide_eq_true e4], HB7.out⟩ | (exfalso; omega)
set_option maxHeartbeats 4000000 in
set_option maxRecDepth 1000000 in
theorem sizes_nil (A0 : Option Addr) (c0 : Nat) (m0 m1 : Int) (w : World) :
    Calls Try.prog 8 #[.slice A0 0 c0, .agg #[.int .i64 m0, .int .i64 m1]] w fun e w' => e = .returned (.bool true) ∧ Below w.heap.size w w' := by
  obtain ⟨i0, hi0, hz0, hz1, hz2⟩ := info_parts info_span
  obtain ⟨W1, hW1⟩ : ∃ W1, W1 = w.alloc (.cells #[.int .i64 m0, .int .i64 m1] 29) := ⟨_, rfl⟩
  have hb1 : Below w.heap.size w W1 := by rw [hW1]; exact (Below.refl _ w).alloc (Nat.le_refl _) _
  have hd1 : W1.heap[w.heap.size]? = some (.cells #[.int .i64 m0, .int .i64 m1] 29 (0, 0)) := by rw [hW1]; exact heap_alloc_new w _
  have hgv := given_gives m0 m1
  have hgo := giv_ok m0 m1
  have hpp := (parts_good (givX m0 m1) (givN m0 m1) hgo).2
  obtain ⟨s, hs⟩ : ∃ s : Sp, s = (givX m0 m1, givN m0 m1) := ⟨_, rfl⟩
  have hso : s.1 + s.2 ≤ 1099511627776 := by rw [hs]; exact hgo
  rw [show givX m0 m1 = s.1 by rw [hs], show givN m0 m1 = s.2 by rw [hs]] at hgv hpp
  have hsz := fun A c w h => size_calls A c [] w h (fun t ht => by cases ht) (by decide)
  have hsz2 := fun A c w h => size_calls A c [s] w h (fun t ht => by rw [List.mem_singleton.1 ht]; exact hso) (by simp)
  simp only [List.length_nil, List.length_singleton, size_nil] at hsz hsz2
  have hsn := size_snoc 1099511627776 [] s (fun t ht => by cases ht) hso
  rw [List.nil_append, size_nil] at hsn
  generalize Clean.size [s] = z2 at *
  have HSZ := Lib.hid hsz; have HSZ2 := Lib.hid hsz2; have HD1 := Lib.hid hd1; have HB1 := Lib.hid hb1; have HW1 := Lib.hid hW1; have HSN := Lib.hid hsn; have HSO := Lib.hid hso
  have HGV : Hid (∀ W : World, Calls Try.prog 13 #[.int .i64 m0, .int .i64 m1] W fun e w' => e = .returned (sp s.1 s.2) ∧ w' = W) := Lib.hid hgv
  have HPP := Lib.hid hpp
  clear hsz hsz2 hd1 hb1 hW1 hgv hpp hgo hs hsn hso
  have hq0 : W1.cell? ⟨w.heap.size, 0, none⟩ = some (.int .i64 m0) := (blk_cell HD1.out 0).trans rfl
  have hq1 : W1.cell? ⟨w.heap.size, 1, none⟩ = some (.int .i64 m1) := (blk_cell HD1.out 1).trans rfl
  have HCAST := Lib.hid (show (eP s) = .complex .f64 (fb s.1) (fb s.2) from rfl)
  have hap : ∀ (W : World) (ty : TypeId), (Builtin.append_ #[46, 46] ty #[.slice (some ⟨W.heap.size, 0, none⟩) 0 0, .slice none 0 0]).run Try.prog (W.alloc (.cells #[] 26)) = .ok (.slice (some ⟨W.heap.size, 0, none⟩) 0 0) (W.alloc (.cells #[] 26)) := fun W ty =>
    run_append_owned_none _ W.heap.size 46 ty 26 i0 1 Try.underlying46 hi0 (.slice (some ⟨W.heap.size, 0, none⟩) 0 0) 0 [] (World.ownsRow_made W #[] 0 (Nat.le_refl _) (Nat.zero_le _) (by simp))
  unfold sp at HGV HPP
  generalize fb s.1 = f1 at *
  generalize fb s.2 = f2 at *
  go_enter Try.func8, Try.ntmps8
  go_wp2_with fail
  rw [← HW1.out]
  refine (shown_gives _).mono ?_
  rintro e W1_ ⟨rfl, hw0⟩
  subst hw0
  go_wp2_with fail
  refine (row_nil _ _ _).mono ?_
  rintro e w2 ⟨rfl, hw2⟩
  subst hw2
  go_wp2_with fail
  refine (HSZ.out none 0 _ (.inl ⟨rfl, rfl⟩)).mono ?_
  rintro e w3 ⟨rfl, hb⟩
  have HB3 := Lib.hid (below_then HB1.out HB1.out.size hb)
  replace hq0 := (hb.cell (World.block_lt_of_cell? _ _ hq0)).trans hq0
  replace hq1 := (hb.cell (World.block_lt_of_cell? _ _ hq1)).trans hq1
  clear hb HB1 HSZ
  go_wp2_with fail
  go_loopg [8, 9] 0 (fun gk v8 v9 wx => v9 = .int .i64 0 ∧ v8 = .int .i64 0 ∧ wx = w3)
  case atStart => exact ⟨rfl, rfl, rfl⟩
  case round =>
    obtain ⟨rfl, rfl, rfl⟩ := hrel
    go_wp2_with fail
    refine (HGV.out _).mono ?_
    rintro e w4 ⟨rfl, hw4⟩
    subst hw4
    go_wp2_with fail
    refine (HPP.out _).mono ?_
    rintro e w4 ⟨rfl, hw4⟩
    subst hw4
    go_wp2_with fail
    refine (HSZ2.out (some ⟨w4.heap.size + 1 + 1, 0, none⟩) _ _ (.inr ⟨_, 0, rfl, ?_, fun j hj => ?_⟩)).mono ?_
    · show w4.heap.size + 1 + 1 < (World.alloc _ _).heap.size
      simp only [World.size_alloc]; omega
    · obtain rfl : j = 0 := by simpa using hj
      rw [show [s][0] = s from rfl, HCAST.out]
      exact alloc_cell _ _ (by simp only [World.size_alloc]) _ _ _
    · rintro e w7 ⟨rfl, hb⟩
      have hz3 := HB3.out.size
      have HB7 : Hid (Below w.heap.size w w7) := Lib.hid (below_then (below_drew (((HB3.out.alloc hz3 (.cells #[] 26)).alloc (by simp only [World.size_alloc]; omega) (.cells #[.complex .f64 f1 f2] 26)).alloc (by simp only [World.size_alloc]; omega) _)) (by show w.heap.size ≤ (World.alloc _ _).heap.size; simp only [World.size_alloc]; omega) hb)
      have hn := HSN.out.2
      have ho := HSO.out
      have e4 : (z2 : Int) ≤ (s.2 : Int) := by omega
      have e5 : z2 ≤ s.2 := by omega
      have hw : wrap64 ((0 : Int) + (s.2 : Int)) = (s.2 : Int) := by rw [w64 (by omega) (by omega)]; omega
      have hw2 : wrap64 (s.2 : Int) = (s.2 : Int) := w64 (by omega) (by omega)
      clear hb hap hq0 hq1 hn ho hz3
      go_wp2_with fail
      all_goals go_ret
      all_goals first | exact ⟨rfl, HB7.out⟩ | exact ⟨by simp [e4, e5], HB7.out⟩ | (exfalso; omega)
set_option maxHeartbeats 4000000 in
set_option maxRecDepth 1000000 in
theorem sizes_law (A0 : Option Addr) (c0 : Nat) (l : List (Int × Int)) (m0 m1 : Int) (w : World) (hz : l.length ≤ 140737488351232) (hr : KP.C w A0 l.length l) :
    Calls Try.prog 8 #[.slice A0 l.length c0, .agg #[.int .i64 m0, .int .i64 m1]] w fun e w' => e = .returned (.bool true) ∧ Below w.heap.size w w' := by
  by_cases hl : l.length ≤ 40
  · cases l with
    | nil => exact sizes_nil A0 c0 m0 m1 w
    | cons a b => exact sizes_main A0 c0 (a :: b) m0 m1 w hl (by intro h; cases h) hr
  · have g1 : decide ((40 : Int) < (l.length : Int)) = true := decide_eq_true (by omega)
    have hB := Lib.hid ((Below.refl _ w).alloc (Nat.le_refl _) (.cells #[.int .i64 m0, .int .i64 m1] 29))
    clear hr
    go_enter Try.func8, Try.ntmps8
    go_wp2_with fail
    refine (shown_gives _).mono ?_
    rintro e w1 ⟨rfl, rfl⟩
    go_wp2_with fail
    go_ret
    exact ⟨rfl, hB.out⟩
end Go.Proofs.Ytnoognbnkopdnaa
namespace Go.Proofs.Ytnoognbnkopdnaa.Q
end Go.Proofs.Ytnoognbnkopdnaa.Q
namespace Go.Proofs.Ytnoognbnkopdnaa
open Go.RowKit Go.Shelf Go.Lib Go.Sort Go.Proofs.YtnoognbnkopdnaaW.PrintWords Flt Math Clean
def copyholdlaw03_SpanSizes.f (l0 : List (Int × Int)) (a1_0 a1_1 : Int) : Option Bool := if l0.length ≤ 140737488351232 then some true else none
theorem copyholdlaw03_SpanSizes.calls (A0 : Option Addr) (c0 : Nat) (l0 : List (Int × Int)) (a1_0 a1_1 : Int) (r : Bool) (w : World) (hr0 : KP.C w A0 l0.length l0) (hc0 : l0.length ≤ c0) (h : copyholdlaw03_SpanSizes.f l0 a1_0 a1_1 = some r) :
    Calls Try.prog 8 #[.slice A0 l0.length c0, .agg #[.int .i64 a1_0, .int .i64 a1_1]] w fun e w' => e = .returned (.bool r) ∧ Below w.heap.size w w' := by
  unfold copyholdlaw03_SpanSizes.f at h
  split at h
  · rename_i hh
    obtain rfl := Option.some.inj h
    exact sizes_law A0 c0 l0 a1_0 a1_1 w hh hr0
  · cases h
end Go.Proofs.Ytnoognbnkopdnaa
