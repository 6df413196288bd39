/- Layer 3, walked: the laws' row. -/
import Derived.Test.YtnoognbnkopdnaaSpanJ
import Derived.Test.YtnoognbnkopdnaaSpanAround
import Derived.Deep.AppendLies
import Derived.Test.YtnoognbnkopdnaaWLast
set_option linter.unusedVariables false
set_option linter.unusedSimpArgs false
set_option exponentiation.threshold 2000
namespace Go.Proofs.Ytnoognbnkopdnaa
open Go.RowKit Go.Shelf Go.Lib Go.Sort Go.Proofs.YtnoognbnkopdnaaW.PrintWords Go.Proofs.YtnoognbnkopdnaaW.PrintLast Flt Math Clean

abbrev KP : Kd (Int × Int) := Kd.pair (Kd.int .i64) (Kd.int .i64)
theorem at_pair {w : World} {A : Option Addr} {l : List (Int × Int)} (h : KP.C w A l.length l) (i : Nat) (hi : i < l.length) :
    ∃ ad, A = some ad ∧ w.cell? (ad.add (i * 2)) = some (.int .i64 l[i].1) ∧ w.cell? (ad.add (i * 2 + 1)) = some (.int .i64 l[i].2) := by
  obtain ⟨ad, e, hc⟩ := h.2.2 (by omega)
  obtain ⟨c, hl, ⟨c0, c1, rfl, h0, h1⟩, hcell⟩ := hc i _ (List.getElem?_eq_getElem hi)
  obtain rfl : c0 = [.int .i64 l[i].1] := h0
  obtain rfl : c1 = [.int .i64 l[i].2] := h1
  exact ⟨ad, e, hcell 0 _ rfl, hcell 1 _ rfl⟩
def rowP (l : List (Int × Int)) : List Sp := l.map fun p => (givX p.1 p.2, givN p.1 p.2)
theorem rowP_fit (l : List (Int × Int)) : Fit (rowP l) := fun s hs => by obtain ⟨p, _, rfl⟩ := List.mem_map.1 hs; exact giv_ok p.1 p.2
theorem rowP_len (l : List (Int × Int)) : (rowP l).length = l.length := List.length_map ..
set_option maxHeartbeats 4000000 in
set_option maxRecDepth 1000000 in
theorem row_calls (A : Option Addr) (c : Nat) (l : List (Int × Int)) (w : World) (hr : KP.C w A l.length l) (hn : l.length ≤ 1000) :
    Calls Try.prog 25 #[.slice A l.length c] w fun e w' => ∃ A' c', e = .returned (.slice A' (rowP l).length c') ∧ RdP w' A' (rowP l) ∧ (rowP l).length ≤ c' ∧ Below w.heap.size w w' := by
  obtain ⟨i0, hi0, hz0, hz1, hz2⟩ := info_parts info_span
  have hrl := rowP_len l
  have HR := Lib.hid hr
  clear hr
  go_enter Try.func25, Try.ntmps25
  go_wp2_with fail
  go_loopg [3, 4] l.length (fun gk v3 v4 wx => ∃ i : Nat, i + gk = l.length ∧ v4 = .int .i64 i ∧ Hid (wx.ownsRow w.heap.size 26 1 v3 i (((rowP l).take i).map eP)) ∧ Hid (Below w.heap.size w wx))
  case atStart => exact ⟨0, by omega, rfl, Lib.hid (World.ownsRow_nil _ _ _ _), Lib.hid (Below.refl _ _)⟩
  case round =>
    obtain ⟨i, hi, rfl, HO, HW⟩ := hrel
    by_cases hlt : i < l.length
    · have hd : decide ((i : Int) < (l.length : Int)) = true := decide_eq_true (by omega)
      cases gk with
      | zero => omega
      | succ k =>
        obtain ⟨ad, hA, hx1, hx2⟩ := at_pair HR.out i hlt
        subst hA
        replace hx1 := (HW.out.cell (World.block_lt_of_cell? w _ hx1)).trans hx1
        replace hx2 := (HW.out.cell (World.block_lt_of_cell? w _ hx2)).trans hx2
        have p1_ : (0 : Int) ≤ (i : Int) := by omega
        have q1_ : (i : Int) < (l.length : Int) := by omega
        have hg := given_gives l[i].1 l[i].2
        have hs : eP (rowP l)[i] = sp (givX l[i].1 l[i].2) (givN l[i].1 l[i].2) := by unfold rowP; rw [List.getElem_map]; rfl
        have htk : (rowP l).take (i + 1) = (rowP l).take i ++ [(rowP l)[i]] := List.take_succ_eq_append_getElem (by omega)
        unfold sp at hg hs
        have HS := Lib.hid hs
        have HTK := Lib.hid htk
        have HG := Lib.hid hg
        clear hs htk hg
        generalize fb (givX l[i].1 l[i].2) = g1 at *
        generalize fb (givN l[i].1 l[i].2) = g2 at *
        generalize l[i].1 = p1 at *
        generalize l[i].2 = p2 at *
        have HG2 : Hid (∀ W : World, Calls Try.prog 13 #[.int .i64 p1, .int .i64 p2] W fun e w' => e = .returned (.complex .f64 g1 g2) ∧ w' = W) := Lib.hid HG.out
        replace hx2 : wr.cell? ⟨(ad.add (i * 2)).block, (ad.add (i * 2)).off + 1, none⟩ = some (.int .i64 p2) := by rw [← add_field _ _ 1 (by omega)]; exact hx2
        go_wp2_with fail
        refine start_ (n := 15) (S := fun w' => w'.cell? (ad.add (i * 2)) = some (.int .i64 p1) ∧ w'.cell? ⟨(ad.add (i * 2)).block, (ad.add (i * 2)).off + 1, none⟩ = some (.int .i64 p2)) (ds := [13]) #[false, false, false, false, false, false, false, false, false, false, false, false, false, false, false] (by kernel_rfl) rfl rfl ⟨hx1, hx2⟩ (fun hHeld => ?_)
        refine pure_ (i := 0) (N := some 11) (v := ?_) (a' := ?_) #[true, false, false, false, false, false, false, false, false, false, false, false, false, false, false] rfl rfl (by kernel_rfl) (fun _ _ _ h => h) (Or.inl ⟨by rfl, ?_⟩) ?_ ?_
        rotate_left
        · intro w'
          go_simp
          with_reducible rfl
        rotate_left
        · simp only [Act.put, List.setIfInBounds_toArray, List.set_cons_zero, List.set_cons_succ, i64_w, i32_w]
          rfl
        refine pure_ (i := 1) (N := some 12) (v := ?_) (a' := ?_) #[true, true, false, false, false, false, false, false, false, false, false, false, false, false, false] rfl rfl (by kernel_rfl) (fun _ _ _ h => h) (Or.inl ⟨by rfl, ?_⟩) ?_ ?_
        rotate_left
        · intro w'
          go_simp
          with_reducible rfl
        rotate_left
        · simp only [Act.put, List.setIfInBounds_toArray, List.set_cons_zero, List.set_cons_succ, i64_w, i32_w]
          rfl
        refine pure_ (i := 2) (N := some 13) (v := ?_) (a' := ?_) #[true, true, true, false, false, false, false, false, false, false, false, false, false, false, false] rfl rfl (by kernel_rfl) (fun _ _ _ h => h) (Or.inl ⟨by rfl, ?_⟩) ?_ ?_
        rotate_left
        · intro w'
          go_simp
          with_reducible rfl
        rotate_left
        · simp only [Act.put, List.setIfInBounds_toArray, List.set_cons_zero, List.set_cons_succ, i64_w, i32_w]
          rfl
        refine pure_ (i := 3) (N := some 14) (v := ?_) (a' := ?_) #[true, true, true, true, false, false, false, false, false, false, false, false, false, false, false] rfl rfl (by kernel_rfl) (fun _ _ _ h => h) (Or.inl ⟨by rfl, ?_⟩) ?_ ?_
        rotate_left
        · intro w'
          go_simp
          with_reducible rfl
        rotate_left
        · simp only [Act.put, List.setIfInBounds_toArray, List.set_cons_zero, List.set_cons_succ, i64_w, i32_w]
          rfl
        refine pure_ (i := 4) (N := some 15) (v := ?_) (a' := ?_) #[true, true, true, true, true, false, false, false, false, false, false, false, false, false, false] rfl rfl (by kernel_rfl) (fun _ _ _ h => h) (Or.inl ⟨by rfl, ?_⟩) ?_ ?_
        rotate_left
        · intro w'
          go_simp
          with_reducible rfl
        rotate_left
        · simp only [Act.put, List.setIfInBounds_toArray, List.set_cons_zero, List.set_cons_succ, i64_w, i32_w]
          rfl
        refine pure_ (i := 6) (N := some 17) (v := ?_) (a' := ?_) #[true, true, true, true, true, false, true, false, false, false, false, false, false, false, false] rfl rfl (by kernel_rfl) (fun _ _ _ h => h) (Or.inl ⟨by rfl, ?_⟩) ?_ ?_
        rotate_left
        · intro w'
          go_simp
          with_reducible rfl
        rotate_left
        · simp only [Act.put, List.setIfInBounds_toArray, List.set_cons_zero, List.set_cons_succ, i64_w, i32_w]
          rfl
        refine pure_ (i := 7) (N := some 18) (v := ?_) (a' := ?_) #[true, true, true, true, true, false, true, true, false, false, false, false, false, false, false] rfl rfl (by kernel_rfl) (fun _ _ _ h => h) (Or.inl ⟨by rfl, ?_⟩) ?_ ?_
        rotate_left
        · intro w'
          go_simp
          with_reducible rfl
        rotate_left
        · simp only [Act.put, List.setIfInBounds_toArray, List.set_cons_zero, List.set_cons_succ, i64_w, i32_w]
          rfl
        refine pure_ (i := 8) (N := some 19) (v := ?_) (a' := ?_) #[true, true, true, true, true, false, true, true, true, false, false, false, false, false, false] rfl rfl (by kernel_rfl) (fun _ _ _ h => h) (Or.inl ⟨by rfl, ?_⟩) ?_ ?_
        rotate_left
        · intro w'
          go_simp
          with_reducible rfl
        rotate_left
        · simp only [Act.put, List.setIfInBounds_toArray, List.set_cons_zero, List.set_cons_succ, i64_w, i32_w]
          rfl
        refine pure_ (i := 9) (N := some 20) (v := ?_) (a' := ?_) #[true, true, true, true, true, false, true, true, true, true, false, false, false, false, false] rfl rfl (by kernel_rfl) (fun _ _ _ h => h) (Or.inl ⟨by rfl, ?_⟩) ?_ ?_
        rotate_left
        · intro w'
          go_simp
          with_reducible rfl
        rotate_left
        · simp only [Act.put, List.setIfInBounds_toArray, List.set_cons_zero, List.set_cons_succ, i64_w, i32_w]
          rfl
        refine take_ (i := 5) (N := some 16) (v := ?_) (a' := ?_) #[true, true, true, true, true, true, true, true, true, true, false, false, false, false, false] rfl rfl (by kernel_rfl) (fun _ _ _ h => h) (Or.inl ⟨by rfl, ?_⟩) hHeld ?_ ?_
        rotate_left
        · rintro w' ⟨s0, s1⟩
          go_simp
          with_reducible rfl
        rotate_left
        · simp only [Act.put, List.setIfInBounds_toArray, List.set_cons_zero, List.set_cons_succ, i64_w, i32_w]
          rfl
        refine take_ (i := 10) (N := some 21) (v := ?_) (a' := ?_) #[true, true, true, true, true, true, true, true, true, true, true, false, false, false, false] rfl rfl (by kernel_rfl) (fun _ _ _ h => h) (Or.inl ⟨by rfl, ?_⟩) hHeld ?_ ?_
        rotate_left
        · rintro w' ⟨s0, s1⟩
          go_simp
          with_reducible rfl
        rotate_left
        · simp only [Act.put, List.setIfInBounds_toArray, List.set_cons_zero, List.set_cons_succ, i64_w, i32_w]
          rfl
        refine one_ (i := 11) (N := some 22) #[true, true, true, true, true, true, true, true, true, true, true, true, false, false, false] rfl rfl (by kernel_rfl) (by decide) (fun K hK => ?_)
        refine goes_ Try.func13 (by kernel_rfl) rfl #[.int .i64 p1, .int .i64 p2] (by rfl) rfl rfl (by simp only [List.map_toArray, List.map_cons, List.map_nil]; rfl) ?_
        with_reducible refine (HG2.out _).mono ?_
        rintro e w3 ⟨rfl, rfl⟩
        refine ⟨_, rfl, ?_⟩
        refine hK.out _ _ ⟨hx1, hx2⟩ (fun hHeld => ?_)
        clear hK K
        refine norm_ (a' := ?_) ?_ ?_
        rotate_left
        · show Act.put _ (some 22) _ = _
          simp only [Act.put, List.setIfInBounds_toArray, List.set_cons_zero, List.set_cons_succ, i64_w, i32_w]
          rfl
        refine one_ (i := 12) (N := some 23) #[true, true, true, true, true, true, true, true, true, true, true, true, true, false, false] rfl rfl (by kernel_rfl) (by decide) (fun K hK => ?_)
        refine value_ (w1 := ?_) (v := ?_) (by rfl) rfl ?_ ?_
        rotate_left 2
        · go_simp
          constructor
          · rfl
          · rfl
        refine hK.out _ _ ⟨Lib.cell?_alloc_some _ hx1, Lib.cell?_alloc_some _ hx2⟩ (fun hHeld => ?_)
        clear hK K
        refine norm_ (a' := ?_) ?_ ?_
        rotate_left
        · show Act.put _ (some 23) _ = _
          simp only [Act.put, List.setIfInBounds_toArray, List.set_cons_zero, List.set_cons_succ, i64_w, i32_w]
          rfl
        refine last_ (i := 13) (N := some 24) #[true, true, true, true, true, true, true, true, true, true, true, true, true, true, false] rfl rfl (by kernel_rfl) (by decide) (fun K hK => ?_)
        refine step_append_lies _ rfl _ _ 46 rfl w.heap.size 26 i0 _ 1 16 Try.underlying46 hi0 hz0 hz1 hz2 rfl (by decide) u3 i (((rowP l).take i).map eP) rfl (HO.out.alloc _) ⟨wr.drew.heap.size, 0, none⟩ 1 1 [.complex .f64 g1 g2] rfl rfl (World.news_of_block (cs := #[.complex .f64 g1 g2]) (t := 26) (fr := (0, 0)) (heap_alloc_new wr.drew _)) (by intro u hu; rw [List.mem_singleton.1 hu]; rfl) (by decide) (by unfold maxLen; omega) (by omega) (by have := HW.out.size; simp only [World.size_alloc, World.size_drew]; omega) _ rfl ?_
        intro g4 cap4 w4 hown hgrow hat hlt4
        refine hK.out _ _ ?_
        clear hK K
        refine norm_ (a' := ?_) ?_ ?_
        rotate_left
        · show Act.put _ (some 24) _ = _
          simp only [Act.put, List.setIfInBounds_toArray, List.set_cons_zero, List.set_cons_succ, i64_w, i32_w]
          rfl
        refine pure_ (i := 14) (N := some 3) (v := ?_) (a' := ?_) #[true, true, true, true, true, true, true, true, true, true, true, true, true, true, true] rfl rfl (by kernel_rfl) (fun _ _ _ h => h) (Or.inl ⟨by rfl, ?_⟩) ?_ ?_
        rotate_left
        · intro w'
          go_simp
          with_reducible rfl
        rotate_left
        · simp only [Act.put, List.setIfInBounds_toArray, List.set_cons_zero, List.set_cons_succ, i64_w, i32_w]
          rfl
        refine done_ (by kernel_rfl) ?_
        go_wp2_with fail
        go_roundg k
        case measure => omega
        case rel =>
          refine ⟨i + 1, by omega, by congr 1, Lib.hid ?_, Lib.hid ?_⟩
          · rw [HTK.out, List.map_append, List.map_cons, List.map_nil, HS.out]
            exact hown
          · have hB1 : Below w.heap.size w wr.drew := below_drew HW.out
            have hz : w.heap.size ≤ wr.drew.heap.size := hB1.size
            exact (hB1.alloc hz (.cells #[.complex .f64 g1 g2] 26)).grown hgrow (by rw [World.size_alloc]; omega) (fun k hk => (HO.out.lt k hk).1)
    · obtain rfl : gk = 0 := by omega
      obtain rfl : i = l.length := by omega
      have hd : decide ((l.length : Int) < (l.length : Int)) = false := decide_eq_false (by omega)
      go_wp2_with fail
      go_ret
      have ho := HO.out
      rw [List.take_of_length_le (by omega)] at ho
      obtain ⟨A', c', e1, h2, h3⟩ := own_read ho
      rw [e1]
      exact ⟨A', c', rfl, h2, h3, HW.out⟩
end Go.Proofs.Ytnoognbnkopdnaa
