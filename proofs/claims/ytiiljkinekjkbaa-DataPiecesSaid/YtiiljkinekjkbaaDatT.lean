/- Layer 9, walked: the reference's Pieces, Patch and Unlike; Strings, Long; the laws' row. -/
import Derived.Test.YtiiljkinekjkbaaPureDataParts
import Derived.Test.YtiiljkinekjkbaaDatQ
set_option linter.unusedVariables false
set_option linter.unusedSimpArgs false
set_option exponentiation.threshold 2000
namespace Go.Proofs.Ytiiljkinekjkbaa
open Go.RowKit Go.Shelf Go.Lib Go.Sort Go.Proofs.YtiiljkinekjkbaaW.PrintWords Flt Math Clean

theorem ref_read_calls (s : ByteArray) (a m : Int) (hs : s.size ≤ 10000) (ha : -9223372036854775808 ≤ a ∧ a ≤ 9223372036854775807) (w : World) :
    Calls Try.prog 16 #[.string s, .int .i64 a, .int .i64 m] w fun e w' => e = .returned (.tuple #[.string (readR s a m).1, .int .i64 (readR s a m).2]) ∧ Below w.heap.size w w' :=
  V.copyholdref09_Read.calls (s.size + 3) _ _ _ _ _ w (Pure.ref_read s a m hs _ (Nat.le_refl _) ha)
set_option maxHeartbeats 4000000 in
set_option maxRecDepth 1000000 in
theorem ref_pieces_calls (s : ByteArray) (A : Option Addr) (c : Nat) (l : List Sp) (w : World) (hs : s.size ≤ 10000) (h : RdP w A l) (hf : Fit l) (hn : l.length ≤ 1000000) :
    Calls Try.prog 26 #[.string s, .slice A l.length c] w fun e w' => ∃ A' c', e = .returned (.slice A' (pcs s l).length c') ∧ RdS w' A' (pcs s l) ∧ (pcs s l).length ≤ c' ∧ Below w.heap.size w w' := by
  obtain ⟨i0, hi0, hz0, hz1, hz2⟩ := info_parts info_str
  have HR := Lib.hid h; have HF := Lib.hid hf
  have hpl := pcs_len s l
  clear h hf
  go_enter Try.func26, Try.ntmps26
  go_wp2_with fail
  go_loopg [5, 6] l.length (fun gk v5 v6 wx => ∃ i : Nat, i + gk = l.length ∧ v6 = .int .i64 i ∧ Hid (wx.ownsRow w.heap.size 9 1 v5 i (((pcs s l).take i).map Value.string)) ∧ Hid (Below w.heap.size w wx))
  case atStart => exact ⟨0, by omega, rfl, Lib.hid (World.ownsRow_nil _ _ _ _), Lib.hid (Below.refl _ _)⟩
  case round =>
    obtain ⟨i, hi, rfl, HO, HW⟩ := hrel
    by_cases hlt : i < l.length
    · have hd : decide ((i : Int) < (l.length : Int)) = true := decide_eq_true (by omega)
      cases gk with
      | zero => omega
      | succ k =>
        obtain ⟨bk, o, hA, hx⟩ := HR.out.at_ i hlt
        subst hA
        replace hx := (HW.out.cell (World.block_lt_of_cell? w _ hx)).trans hx
        have hfi := HF.out _ (List.getElem_mem hlt)
        have hp := (parts_good l[i].1 l[i].2 hfi).2
        have hrd := fun w => ref_read_calls s l[i].1 l[i].2 hs (by omega) w
        have htk : (pcs s l).take (i + 1) = (pcs s l).take i ++ [(readR s l[i].1 l[i].2).1] := by
          rw [List.take_succ_eq_append_getElem (by omega)]
          congr 2
          unfold pcs
          rw [List.getElem_map]
        rw [show eP l[i] = sp l[i].1 l[i].2 from rfl] at hx
        have ho := HO.out
        obtain ⟨xs, hxs⟩ : ∃ xs, xs = ((pcs s l).take i).map Value.string := ⟨_, rfl⟩
        rw [← hxs] at ho
        have HTK := Lib.hid htk; have HP := Lib.hid hp; have HRD := Lib.hid hrd; have HXS := Lib.hid hxs; have HO4 := Lib.hid ho
        clear htk hp hrd hxs ho hfi
        generalize (readR s l[i].1 l[i].2).1 = r1 at *
        generalize (readR s l[i].1 l[i].2).2 = r2 at *
        generalize sp l[i].1 l[i].2 = V at *
        generalize l[i].1 = x1 at *
        generalize l[i].2 = x2 at *
        go_wp2_with fail
        refine (HP.out _).mono ?_
        rintro e w3 ⟨rfl, rfl⟩
        go_wp2_with fail
        refine (HRD.out _).mono ?_
        rintro e w4 ⟨rfl, hb4⟩
        have HB4 := Lib.hid (below_then HW.out HW.out.size hb4)
        have HO5 := Lib.hid (pw_own_below HO4.out hb4)
        clear hb4
        go_wp2_with (at_builtin; refine wpList_append_own _ rfl _ _ 46 rfl w.heap.size 9 i0 _ 1 16 Try.underlying46 hi0 hz0 hz1 hz2 rfl (by decide) u5 i xs rfl (HO5.out.alloc _) ⟨w4.heap.size, 0, none⟩ 1 1 [.string r1] rfl rfl (World.news_of_block (cs := #[.string r1]) (t := 9) (fr := (0, 0)) (heap_alloc_new w4 _)) (by intro u hu; rw [List.mem_singleton.1 hu]; rfl) (by unfold maxLen; omega) (by omega) (by rw [World.size_alloc]; exact Nat.le_succ_of_le HB4.out.size) ?_)
        intro v' w5 hown hgrow _
        have HO6 := Lib.hid hown
        have HW5 := Lib.hid ((HB4.out.alloc HB4.out.size (.cells #[.string r1] 9)).grown hgrow (by rw [World.size_alloc]; exact Nat.le_succ_of_le HB4.out.size) (fun k hk => (HO5.out.lt k hk).1))
        clear hown hgrow
        go_wp2_with fail
        go_roundg k
        case measure => omega
        case rel => exact ⟨i + 1, by omega, by congr 1, by rw [HTK.out, List.map_append, ← HXS.out]; exact HO6, HW5⟩
    · obtain rfl : gk = 0 := by omega
      obtain rfl : i = l.length := by omega
      have hd : decide ((l.length : Int) < (l.length : Int)) = false := decide_eq_false (by omega)
      have ho := HO.out
      rw [List.take_of_length_le (by omega)] at ho
      obtain ⟨A', c', e1, h2, h3⟩ := own_readS ho
      subst e1
      have H2 := Lib.hid h2
      clear h2 ho HO
      go_wp2_with fail
      go_ret
      exact ⟨A', c', rfl, H2.out, h3, HW.out⟩
set_option maxHeartbeats 4000000 in
set_option maxRecDepth 1000000 in
theorem ref_patch_calls (s : ByteArray) (A B : Option Addr) (c d : Nat) (l : List Sp) (ps : List ByteArray) (w : World) (hs : s.size ≤ 10000) (ha : RdP w A l) (hb : RdS w B ps) (hf : Fit l) (hn : l.length ≤ 1000000) (hm : ps.length ≤ 9223372036854775807) (hp : l.length = ps.length → ∀ p ∈ ps, p.size ≤ 1000000) :
    Calls Try.prog 21 #[.string s, .slice A l.length c, .slice B ps.length d] w fun e w' => e = .returned (.tuple #[.string (patchR s l ps).1, .int .i64 (patchR s l ps).2]) ∧ Below w.heap.size w w' := by
  unfold patchR
  by_cases hlen : l.length = ps.length
  · rw [if_pos hlen]
    have hne : ((l.length : Int) != (ps.length : Int)) = false := by simp [hlen]
    have HR := Lib.hid ha; have HF := Lib.hid hf; have HS := Lib.hid hb; have HPS := Lib.hid (hp hlen)
    obtain ⟨R, hR⟩ : ∃ R, R = patchGo s s l ps := ⟨_, rfl⟩
    rw [← hR]
    have HRR := Lib.hid hR
    have HL := Lib.hid hlen
    clear ha hb hf hR hlen hp
    go_enter Try.func21, Try.ntmps21
    go_wp2_with fail
    go_loopg [8, 9] l.length (fun gk v8 v9 wx => ∃ (i : Nat) (out : ByteArray), i + gk = l.length ∧ v9 = .int .i64 i ∧ v8 = .string out ∧ out.size ≤ 10000 ∧ Hid (R = patchGo s out (l.drop i) (ps.drop i)) ∧ Hid (Below w.heap.size w wx))
    case atStart => exact ⟨0, s, by omega, rfl, rfl, hs, HRR, Lib.hid (Below.refl _ _)⟩
    case round =>
      obtain ⟨i, out, hi, rfl, rfl, hout, HG, HW⟩ := hrel
      by_cases hlt : i < l.length
      · have hd : decide ((i : Int) < (l.length : Int)) = true := decide_eq_true (by omega)
        cases gk with
        | zero => omega
        | succ k =>
          obtain ⟨bk, o, hA, hx⟩ := HR.out.at_ i hlt
          have hlt2 : i < ps.length := by have := HL.out; omega
          obtain ⟨ad2, hB, hy⟩ := HS.out.at_ i hlt2
          subst hA hB
          replace hx := (HW.out.cell (World.block_lt_of_cell? w _ hx)).trans hx
          replace hy := (HW.out.cell (World.block_lt_of_cell? w _ hy)).trans hy
          have hfi := HF.out _ (List.getElem_mem hlt)
          have hpi := HPS.out _ (List.getElem_mem hlt2)
          have hp := (parts_good l[i].1 l[i].2 hfi).2
          have hwr := fun w => ref_write_calls out (l[i].1 : Int) ps[i] (by omega) hpi w (by omega)
          have hg := HG.out
          rw [List.drop_eq_getElem_cons hlt, List.drop_eq_getElem_cons hlt2] at hg
          unfold patchGo at hg
          have hws := writeR_size out (l[i].1 : Int) ps[i]
          have hwe := writeR_err out (l[i].1 : Int) ps[i]
          rw [show eP l[i] = sp l[i].1 l[i].2 from rfl] at hx
          have HP := Lib.hid hp; have HWR := Lib.hid hwr; have HG2 := Lib.hid hg
          have q1 : (i : Int) < (ps.length : Int) := by omega
          clear hp hwr hg HG hfi hpi
          generalize (writeR out (l[i].1 : Int) ps[i]).1 = r1 at *
          generalize (writeR out (l[i].1 : Int) ps[i]).2 = r2 at *
          generalize sp l[i].1 l[i].2 = V at *
          generalize l[i].1 = x1 at *
          generalize l[i].2 = x2 at *
          generalize ps[i] = pi at *
          by_cases h0 : r2 = 0
          · subst h0
            clear hwe
            go_wp2_with fail
            refine (HP.out _).mono ?_
            rintro e w3 ⟨rfl, rfl⟩
            go_wp2_with fail
            refine (HWR.out _).mono ?_
            rintro e w3 ⟨rfl, hb3⟩
            have HB3 := Lib.hid (below_then HW.out HW.out.size hb3)
            clear hb3
            go_wp2_with fail
            go_roundg k
            case measure => omega
            case rel => exact ⟨i + 1, r1, by omega, by congr 1, rfl, by omega, Lib.hid (by have := HG2.out; first | rw [if_pos rfl] at this | rw [if_pos trivial] at this; exact this), HB3⟩
          · have hb0 : (r2 != 0) = true := by simp [h0]
            have hRe : R = (s, r2) := by have := HG2.out; rw [if_neg h0] at this; exact this
            subst hRe
            clear HG2 hwe HRR h0
            go_wp2_with fail
            refine (HP.out _).mono ?_
            rintro e w3 ⟨rfl, rfl⟩
            go_wp2_with fail
            refine (HWR.out _).mono ?_
            rintro e w3 ⟨rfl, hb3⟩
            have HB3 := Lib.hid (below_then HW.out HW.out.size hb3)
            clear hb3
            go_wp2_with fail
            go_ret2
            exact ⟨rfl, HB3.out⟩
      · obtain rfl : gk = 0 := by omega
        obtain rfl : i = l.length := by omega
        have hd : decide ((l.length : Int) < (l.length : Int)) = false := decide_eq_false (by omega)
        have hRe : R = (out, 0) := by
          have := HG.out
          rw [List.drop_length] at this
          unfold patchGo at this
          exact this
        subst hRe
        clear HG HRR
        go_wp2_with fail
        go_ret2
        exact ⟨rfl, HW.out⟩
  · rw [if_neg hlen]
    have hne : ((l.length : Int) != (ps.length : Int)) = true := by simp; omega
    clear ha hb hf hp
    go_enter Try.func21, Try.ntmps21
    go_wp2_with fail
    go_ret2
    exact ⟨rfl, Below.refl _ _⟩
set_option maxHeartbeats 4000000 in
set_option maxRecDepth 1000000 in
theorem strings_calls (A B : Option Addr) (c d : Nat) (l : List ByteArray) (w : World) (ha : RdS w A l) (hb : RdS w B l) (hn : l.length ≤ 1000000) :
    Calls Try.prog 24 #[.slice A l.length c, .slice B l.length d] w fun e w' => e = .returned (.bool true) ∧ Below w.heap.size w w' := by
  have HA := Lib.hid ha; have HB := Lib.hid hb
  clear ha hb
  have hne : ((l.length : Int) != (l.length : Int)) = false := by simp
  go_enter Try.func24, Try.ntmps24
  go_wp2_with fail
  go_loopg [5] l.length (fun gk v5 wx => ∃ i : Nat, i + gk = l.length ∧ v5 = .int .i64 i ∧ Hid (Below w.heap.size w wx))
  case atStart => exact ⟨0, by omega, rfl, Lib.hid (Below.refl _ _)⟩
  case round =>
    obtain ⟨i, hi, rfl, HW⟩ := hrel
    by_cases hlt : i < l.length
    · have hd : decide ((i : Int) < (l.length : Int)) = true := decide_eq_true (by omega)
      cases gk with
      | zero => omega
      | succ k =>
        obtain ⟨ad1, hA, hx⟩ := HA.out.at_ i hlt
        obtain ⟨ad2, hB, hy⟩ := HB.out.at_ i hlt
        subst hA hB
        replace hx := (HW.out.cell (World.block_lt_of_cell? w _ hx)).trans hx
        replace hy := (HW.out.cell (World.block_lt_of_cell? w _ hy)).trans hy
        generalize l[i] = t at *
        have q1 : (t.toList != t.toList) = false := by simp
        go_wp2_with fail
        go_quiet (fail)
        go_wp2_with fail
        go_roundg k
        case measure => omega
        case rel => exact ⟨i + 1, by omega, by congr 1, by first | exact HW | exact Lib.hid (pw_below_drewN HW.out _)⟩
    · obtain rfl : gk = 0 := by omega
      obtain rfl : i = l.length := by omega
      have hd : decide ((l.length : Int) < (l.length : Int)) = false := decide_eq_false (by omega)
      go_wp2_with fail
      go_ret
      exact ⟨rfl, HW.out⟩
/-- How long texts are, as the machine adds. -/
def longW (ps : List ByteArray) : Int := ps.foldl (fun n p => wrap64 (n + (p.size : Int))) (ps.length : Int)
theorem fold_big : ∀ (ps : List ByteArray) (n : Nat), (∀ p ∈ ps, p.size ≤ 140737488351232) → n + ps.length * 140737488351232 ≤ 9223372036854775807 → ps.foldl (fun n p => wrap64 (n + (p.size : Int))) (n : Int) = ((n + (ps.map ByteArray.size).sum : Nat) : Int)
  | [], n, _, _ => by simp
  | p :: ps, n, hp, h => by
    have h1 := hp p (List.mem_cons_self ..)
    rw [List.length_cons] at h
    rw [List.foldl_cons, show wrap64 ((n : Int) + (p.size : Int)) = ((n + p.size : Nat) : Int) by rw [w64 (by omega) (by omega)]; omega, fold_big ps (n + p.size) (fun q hq => hp q (List.mem_cons_of_mem _ hq)) (by omega), List.map_cons, List.sum_cons, Nat.add_assoc]
theorem sum_mem : ∀ (l : List Nat) (x : Nat), x ∈ l → x ≤ l.sum
  | [], _, h => by cases h
  | a :: l, x, h => by
    rw [List.sum_cons]
    rcases List.mem_cons.1 h with rfl | h
    · omega
    · have := sum_mem l x h; omega
theorem long_small (ps : List ByteArray) (hp : ∀ p ∈ ps, p.size ≤ 140737488351232) (hn : ps.length ≤ 20) (h : longW ps ≤ 5000) : ∀ p ∈ ps, p.size ≤ 5000 := by
  unfold longW at h
  rw [fold_big ps ps.length hp (by omega)] at h
  intro p hm
  have : p.size ≤ (ps.map ByteArray.size).sum := sum_mem _ _ (List.mem_map.2 ⟨p, hm, rfl⟩)
  omega
set_option maxHeartbeats 4000000 in
set_option maxRecDepth 1000000 in
theorem long_calls (A : Option Addr) (c : Nat) (l : List ByteArray) (w : World) (ha : RdS w A l) (hn : l.length ≤ 140737488351232) :
    Calls Try.prog 19 #[.slice A l.length c] w fun e w' => e = .returned (.int .i64 (longW l)) ∧ w' = w := by
  have HA := Lib.hid ha
  clear ha
  have hfr : longW l = (l.drop 0).foldl (fun n p => wrap64 (n + (p.size : Int))) (l.length : Int) := rfl
  have HFR := Lib.hid hfr
  generalize longW l = R at *
  clear hfr
  go_enter Try.func19, Try.ntmps19
  go_wp2_with fail
  go_loopg [3, 4] l.length (fun gk v3 v4 wx => ∃ (i : Nat) (n : Int), i + gk = l.length ∧ v4 = .int .i64 i ∧ v3 = .int .i64 n ∧ Hid (R = (l.drop i).foldl (fun n p => wrap64 (n + (p.size : Int))) n) ∧ wx = w)
  case atStart => exact ⟨0, _, by omega, rfl, rfl, HFR, rfl⟩
  case round =>
    obtain ⟨i, n, hi, rfl, rfl, HG, rfl⟩ := hrel
    by_cases hlt : i < l.length
    · have hd : decide ((i : Int) < (l.length : Int)) = true := decide_eq_true (by omega)
      cases gk with
      | zero => omega
      | succ k =>
        obtain ⟨ad1, hA, hx⟩ := HA.out.at_ i hlt
        subst hA
        have hg := HG.out
        rw [List.drop_eq_getElem_cons hlt, List.foldl_cons] at hg
        have HG2 := Lib.hid hg
        clear hg HG
        generalize l[i] = t at *
        go_wp2_with fail
        go_roundg k
        case measure => omega
        case rel => exact ⟨i + 1, _, by omega, by congr 1, rfl, HG2, rfl⟩
    · obtain rfl : gk = 0 := by omega
      obtain rfl : i = l.length := by omega
      have hd : decide ((l.length : Int) < (l.length : Int)) = false := decide_eq_false (by omega)
      have hR : R = n := by have := HG.out; rw [List.drop_length, List.foldl_nil] at this; exact this
      subst hR
      go_wp2_with fail
      go_ret
      exact ⟨rfl, rfl⟩
end Go.Proofs.Ytiiljkinekjkbaa
