/- Layer 9, walked: Unlike. -/
import Derived.Test.YtiiljkinekjkbaaDatK
import Derived.Deep.QuietTactic
import Derived.BigQuiet
set_option linter.unusedVariables false
set_option linter.unusedSimpArgs false
set_option exponentiation.threshold 2000
namespace Go.Proofs.Ytiiljkinekjkbaa
open Go.RowKit Go.Shelf Go.Lib Go.Sort Go.Proofs.YtiiljkinekjkbaaW.PrintWords Flt Math Clean

/-- Do two texts differ at a place? -/
def dl (a b : ByteArray) (i : Nat) : Bool := decide (a.size ≤ i) || (decide (b.size ≤ i) || (a.data.toList.getD i 0 != b.data.toList.getD i 0))
def unl (a b : ByteArray) (n : Nat) : List Sp := ((List.range n).filter (dl a b)).map fun i => (i, 1)
theorem getD_at (a : ByteArray) (i : Nat) (h : i < a.size) : a.data.toList.getD i 0 = a[i] := by
  rw [List.getD_eq_getElem?_getD, List.getElem?_eq_getElem (by rw [← size_eq]; exact h)]
  rfl
theorem unl_succ (a b : ByteArray) (n : Nat) : unl a b (n + 1) = if dl a b n then unl a b n ++ [(n, 1)] else unl a b n := by
  unfold unl
  rw [List.range_succ, List.filter_append, List.map_append]
  cases h : dl a b n <;> simp [h]
theorem unl_len (a b : ByteArray) (n : Nat) : (unl a b n).length ≤ n := by
  unfold unl
  rw [List.length_map]
  exact Nat.le_trans (List.length_filter_le _ _) (by simp)
theorem unl_fit (a b : ByteArray) (n : Nat) (hn : n ≤ 1000000) : Fit (unl a b n) := fun s hs => by
  unfold unl at hs
  obtain ⟨i, hi, rfl⟩ := List.mem_map.1 hs
  have := List.mem_range.1 (List.mem_filter.1 hi).1
  show i + 1 ≤ _
  omega
set_option maxHeartbeats 4000000 in
set_option maxRecDepth 1000000 in
theorem unlike_calls (a b : ByteArray) (ha : a.size ≤ 1000000) (hb : b.size ≤ 1000000) (w : World) :
    Calls Try.prog 15 #[.string a, .string b] w fun e w' => ∃ A' c', e = .returned (.slice A' (cleanF (unl a b (max a.size b.size))).length c') ∧ RdP w' A' (cleanF (unl a b (max a.size b.size))) ∧ (cleanF (unl a b (max a.size b.size))).length ≤ c' ∧ Below w.heap.size w w' := by
  obtain ⟨i0, hi0, hz0, hz1, hz2⟩ := info_parts info_span
  obtain ⟨N, hN⟩ : ∃ N, N = max a.size b.size := ⟨_, rfl⟩
  have hmx := fun W ts ty => run_max_ints a.size b.size N hN W ts ty
  rw [← hN]
  have hNl : N ≤ 1000000 := by omega
  clear hN
  go_enter Try.func15, Try.ntmps15
  go_wp2_with fail
  go_loopg [5, 12] N (fun gk v5 v12 wx => ∃ i : Nat, i + gk = N ∧ v12 = .int .i64 i ∧ Hid (wx.ownsRow w.heap.size 57 1 v5 (unl a b i).length ((unl a b i).map eP)) ∧ Hid (Below w.heap.size w wx))
  case atStart => exact ⟨0, by omega, rfl, Lib.hid (World.ownsRow_nil _ _ _ _), Lib.hid (Below.refl _ _)⟩
  case round =>
    clear hmx
    obtain ⟨i, hi, rfl, HO, HW⟩ := hrel
    by_cases hlt : i < N
    · have hd : decide ((i : Int) < (N : Int)) = true := decide_eq_true (by omega)
      cases gk with
      | zero => omega
      | succ k =>
        by_cases c1 : a.size ≤ i
        · have d1 : decide ((a.size : Int) ≤ (i : Int)) = true := decide_eq_true (by omega)
          have hdl : dl a b i = true := by unfold dl; rw [decide_eq_true c1]; rfl
          have hun : unl a b (i + 1) = unl a b i ++ [(i, 1)] := by rw [unl_succ, hdl, if_pos rfl]
          have hcv := conv_if i
          have hxe : (unl a b i).map eP ++ [eP (i, 1)] = (unl a b (i + 1)).map eP := by rw [hun, List.map_append]; rfl
          have hll : (unl a b (i + 1)).length = (unl a b i).length + 1 := by rw [hun, List.length_append]; rfl
          have hle := unl_len a b i
          have hrow := HO.out
          rw [show eP (i, 1) = .complex .f64 (fb i) 4607182418800017408 by rw [← fb_one]; rfl] at hxe
          obtain ⟨xs, hxs⟩ : ∃ xs, xs = (unl a b i).map eP := ⟨_, rfl⟩
          obtain ⟨L, hL⟩ : ∃ L, L = (unl a b i).length := ⟨_, rfl⟩
          rw [← hxs] at hxe hrow
          rw [← hL] at hll hrow hle
          have HOX := Lib.hid hrow; have HXE := Lib.hid hxe; have HLL := Lib.hid hll;
          clear hrow hxe hll hun hdl hxs hL
          generalize fb i = f1 at *
          go_wp2_with fail
          go_quiet (fail)
          go_wp2_with (at_builtin; refine wpList_append_own _ rfl _ _ 35 rfl w.heap.size 57 i0 _ 1 16 Try.underlying35 hi0 hz0 hz1 hz2 rfl (by decide) u5 L xs rfl ((pw_own_drewN HOX.out _).alloc _) ⟨wr.heap.size, 0, none⟩ 1 1 [.complex .f64 f1 4607182418800017408] rfl rfl (World.news_of_block (cs := #[.complex .f64 f1 4607182418800017408]) (t := 57) (fr := (0, 0)) (heap_alloc_new _ _)) (by intro u hu; rw [List.mem_singleton.1 hu]; rfl) (by unfold maxLen; omega) (by omega) (by rw [World.size_alloc]; exact Nat.le_succ_of_le HW.out.size) ?_)
          intro v' w5 hown hgrow _
          rw [HXE.out] at hown
          have HO5 := Lib.hid hown
          have HB0 : Hid (Below w.heap.size w (wr.drewN nq)) := Lib.hid (pw_below_drewN HW.out nq)
          have HW5 := Lib.hid ((HB0.out.alloc HB0.out.size (.cells #[.complex .f64 f1 4607182418800017408] 57)).grown hgrow (by rw [World.size_alloc]; exact Nat.le_succ_of_le HB0.out.size) (fun k hk => (HOX.out.lt k hk).1))
          clear hown hgrow
          go_wp2_with fail
          go_roundg k
          case measure => omega
          case rel => exact ⟨i + 1, by omega, by congr 1, by rw [HLL.out]; exact HO5, HW5⟩
        · have d1 : decide ((a.size : Int) ≤ (i : Int)) = false := decide_eq_false (by omega)
          by_cases c2 : b.size ≤ i
          · have d2 : decide ((b.size : Int) ≤ (i : Int)) = true := decide_eq_true (by omega)
            have hdl : dl a b i = true := by unfold dl; rw [decide_eq_false c1, decide_eq_true c2]; rfl
            have hun : unl a b (i + 1) = unl a b i ++ [(i, 1)] := by rw [unl_succ, hdl, if_pos rfl]
            have hcv := conv_if i
            have hxe : (unl a b i).map eP ++ [eP (i, 1)] = (unl a b (i + 1)).map eP := by rw [hun, List.map_append]; rfl
            have hll : (unl a b (i + 1)).length = (unl a b i).length + 1 := by rw [hun, List.length_append]; rfl
            have hle := unl_len a b i
            have hrow := HO.out
            rw [show eP (i, 1) = .complex .f64 (fb i) 4607182418800017408 by rw [← fb_one]; rfl] at hxe
            obtain ⟨xs, hxs⟩ : ∃ xs, xs = (unl a b i).map eP := ⟨_, rfl⟩
            obtain ⟨L, hL⟩ : ∃ L, L = (unl a b i).length := ⟨_, rfl⟩
            rw [← hxs] at hxe hrow
            rw [← hL] at hll hrow hle
            have HOX := Lib.hid hrow; have HXE := Lib.hid hxe; have HLL := Lib.hid hll;
            clear hrow hxe hll hun hdl hxs hL
            generalize fb i = f1 at *
            go_wp2_with fail
            go_quiet (fail)
            go_wp2_with (at_builtin; refine wpList_append_own _ rfl _ _ 35 rfl w.heap.size 57 i0 _ 1 16 Try.underlying35 hi0 hz0 hz1 hz2 rfl (by decide) u5 L xs rfl ((pw_own_drewN HOX.out _).alloc _) ⟨wr.heap.size, 0, none⟩ 1 1 [.complex .f64 f1 4607182418800017408] rfl rfl (World.news_of_block (cs := #[.complex .f64 f1 4607182418800017408]) (t := 57) (fr := (0, 0)) (heap_alloc_new _ _)) (by intro u hu; rw [List.mem_singleton.1 hu]; rfl) (by unfold maxLen; omega) (by omega) (by rw [World.size_alloc]; exact Nat.le_succ_of_le HW.out.size) ?_)
            intro v' w5 hown hgrow _
            rw [HXE.out] at hown
            have HO5 := Lib.hid hown
            have HB0 : Hid (Below w.heap.size w (wr.drewN nq)) := Lib.hid (pw_below_drewN HW.out nq)
            have HW5 := Lib.hid ((HB0.out.alloc HB0.out.size (.cells #[.complex .f64 f1 4607182418800017408] 57)).grown hgrow (by rw [World.size_alloc]; exact Nat.le_succ_of_le HB0.out.size) (fun k hk => (HOX.out.lt k hk).1))
            clear hown hgrow
            go_wp2_with fail
            go_roundg k
            case measure => omega
            case rel => exact ⟨i + 1, by omega, by congr 1, by rw [HLL.out]; exact HO5, HW5⟩
          · have d2 : decide ((b.size : Int) ≤ (i : Int)) = false := decide_eq_false (by omega)
            have hia : i < a.size := by omega
            have hib : i < b.size := by omega
            have e0 : dl a b i = (((a[i].toNat : Nat) : Int) != ((b[i].toNat : Nat) : Int)) := by
              unfold dl
              rw [decide_eq_false c1, decide_eq_false c2, Bool.false_or, Bool.false_or, getD_at a i hia, getD_at b i hib, Bool.eq_iff_iff, bne_iff_ne, bne_iff_ne]
              constructor
              · intro k k2; exact k (UInt8.toNat_inj.1 (Int.ofNat_inj.1 k2))
              · intro k k2; exact k (by rw [k2])
            cases hdl : dl a b i with
            | true =>
              rw [hdl] at e0
              replace e0 := e0.symm
              have hun : unl a b (i + 1) = unl a b i ++ [(i, 1)] := by rw [unl_succ, hdl, if_pos rfl]
              have hcv := conv_if i
              have hxe : (unl a b i).map eP ++ [eP (i, 1)] = (unl a b (i + 1)).map eP := by rw [hun, List.map_append]; rfl
              have hll : (unl a b (i + 1)).length = (unl a b i).length + 1 := by rw [hun, List.length_append]; rfl
              have hle := unl_len a b i
              have hrow := HO.out
              rw [show eP (i, 1) = .complex .f64 (fb i) 4607182418800017408 by rw [← fb_one]; rfl] at hxe
              obtain ⟨xs, hxs⟩ : ∃ xs, xs = (unl a b i).map eP := ⟨_, rfl⟩
              obtain ⟨L, hL⟩ : ∃ L, L = (unl a b i).length := ⟨_, rfl⟩
              rw [← hxs] at hxe hrow
              rw [← hL] at hll hrow hle
              have HOX := Lib.hid hrow; have HXE := Lib.hid hxe; have HLL := Lib.hid hll;
              clear hrow hxe hll hun hdl hxs hL
              generalize fb i = f1 at *
              go_wp2_with fail
              go_quiet (fail)
              go_wp2_with (at_builtin; refine wpList_append_own _ rfl _ _ 35 rfl w.heap.size 57 i0 _ 1 16 Try.underlying35 hi0 hz0 hz1 hz2 rfl (by decide) u5 L xs rfl ((pw_own_drewN HOX.out _).alloc _) ⟨wr.heap.size, 0, none⟩ 1 1 [.complex .f64 f1 4607182418800017408] rfl rfl (World.news_of_block (cs := #[.complex .f64 f1 4607182418800017408]) (t := 57) (fr := (0, 0)) (heap_alloc_new _ _)) (by intro u hu; rw [List.mem_singleton.1 hu]; rfl) (by unfold maxLen; omega) (by omega) (by rw [World.size_alloc]; exact Nat.le_succ_of_le HW.out.size) ?_)
              intro v' w5 hown hgrow _
              rw [HXE.out] at hown
              have HO5 := Lib.hid hown
              have HB0 : Hid (Below w.heap.size w (wr.drewN nq)) := Lib.hid (pw_below_drewN HW.out nq)
              have HW5 := Lib.hid ((HB0.out.alloc HB0.out.size (.cells #[.complex .f64 f1 4607182418800017408] 57)).grown hgrow (by rw [World.size_alloc]; exact Nat.le_succ_of_le HB0.out.size) (fun k hk => (HOX.out.lt k hk).1))
              clear hown hgrow
              go_wp2_with fail
              go_roundg k
              case measure => omega
              case rel => exact ⟨i + 1, by omega, by congr 1, by rw [HLL.out]; exact HO5, HW5⟩
            | false =>
              rw [hdl] at e0
              replace e0 := e0.symm
              have hun : unl a b (i + 1) = unl a b i := by rw [unl_succ, hdl, if_neg (by decide)]
              have HUN := Lib.hid hun
              clear hun hdl
              go_wp2_with fail
              go_quiet (fail)
              go_wp2_with fail
              go_roundg k
              case measure => omega
              case rel => exact ⟨i + 1, by omega, by congr 1, by rw [HUN.out]; exact Lib.hid (pw_own_drewN HO.out _), Lib.hid (pw_below_drewN HW.out _)⟩
    · obtain rfl : gk = 0 := by omega
      obtain rfl : i = N := by omega
      have hd : decide ((i : Int) < (i : Int)) = false := decide_eq_false (by omega)
      obtain ⟨A3, c3, e3, hr3, hc3⟩ := own_read HO.out
      subst e3
      have hcc := clean_calls A3 c3 (unl a b i) wr hr3 (unl_fit a b i hNl) (Nat.le_trans (unl_len a b i) hNl)
      have HCC := Lib.hid hcc
      clear hcc hr3 hc3 HO
      go_wp2_with fail
      refine HCC.out.mono ?_
      rintro e w2 ⟨A', c', rfl, h1, h2, hb2⟩
      have H1 := Lib.hid h1; have HB2 := Lib.hid (below_then HW.out HW.out.size hb2)
      clear h1 hb2 HCC
      go_wp2_with fail
      go_ret
      exact ⟨A', c', rfl, H1.out, h2, HB2.out⟩
end Go.Proofs.Ytiiljkinekjkbaa
