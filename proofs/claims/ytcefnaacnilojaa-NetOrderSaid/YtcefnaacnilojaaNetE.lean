/- Layer 19, walked: a text spoilt. -/
import Derived.Test.YtcefnaacnilojaaNetD
import Derived.Test.YtcefnaacnilojaaBytes
set_option linter.unusedVariables false
set_option linter.unusedSimpArgs false
namespace Go.Proofs.Ytcefnaacnilojaa.Q
open Go.RowKit Go.Shelf Go.Proofs.YtcefnaacnilojaaW.PrintWords Go.Proofs.YtcefnaacnilojaaW.PrintLast Go.Proofs.YtcefnaacnilojaaW.PrintMore Math

set_option maxRecDepth 100000 in
set_option maxHeartbeats 1000000 in
theorem spoil1_turns (bb bi bk n c : Nat) (bs : List Int) (i : Nat) (p : ByteArray) (xs : List ByteArray) (w : World) (hbb : w.heap[bb]? = some (.cells #[.slice (some ⟨bk, 0, none⟩) n c] 50 (0, 0))) (hbi : w.heap[bi]? = some (.cells #[.int .i64 i] 3 (0, 0)))
    (hrd : ReadsInt w .u8 (some ⟨bk, 0, none⟩) n bs) (hp : strOfNums bs = p) (hm : xs.length ≤ 8796093022208) (hi : i < xs.length) : Turns 23 #[.pointer (some ⟨bb, 0, none⟩), .pointer (some ⟨bi, 0, none⟩)] w xs (xs.set i p) := by
  intro W g0 hB hg hrow
  have h1 : W.cell? ⟨bb, 0, none⟩ = some (.slice (some ⟨bk, 0, none⟩) n c) := by rw [blk_cell ((hB.block _ (blk_lt hbb)).trans hbb)]; rfl
  have h2 : W.cell? ⟨bi, 0, none⟩ = some (.int .i64 i) := by rw [blk_cell ((hB.block _ (blk_lt hbi)).trans hbi)]; rfl
  have hcv := string_of_reads (P := Try.prog) (c := c) (src := 50) (dst := 9) (e := 5) Try.underlying50 Try.underlying5 Try.underlying9 (hrd.below hB)
  rw [hp] at hcv
  have hc : W.cell? ⟨g0, i, none⟩ = some (.string xs[i]) := by rw [blk_cell hrow]; simp [hi]
  have hf := blk_frozen hrow i
  have hz : (i : Int) < (xs.length : Int) := by omega
  have hR : Kd.R Kd.string 9 (W.setCell ⟨g0, i, none⟩ (.string p)) g0 (fun k => g0 ≤ k) (.slice (some ⟨g0, 0, none⟩) (xs.set i p).length (xs.set i p).length) (xs.set i p) := by
    refine Kd.R_of_own (own_strs _ (Nat.le_refl _) (by rw [List.length_set]; omega) ?_) (fun k hk => ?_)
    · have h := blk_set hrow i (.string p)
      refine h.trans ?_
      congr 2
      apply Array.toList_inj.1
      simp [List.map_set]
    · have : g0 = k := by simpa [Value.ownBlock] using hk
      show g0 ≤ k; omega
  rw [List.length_set] at hR
  have hBB : Below g0 W (W.setCell ⟨g0, i, none⟩ (.string p)) := (Below.refl g0 W).setCell (p := ⟨g0, i, none⟩) (Nat.le_refl _) _
  have HR := Lib.hid hR; have HB := Lib.hid hBB
  clear hR hBB hrow hrd hbb hbi hB
  go_enter Try.func23, Try.ntmps23
  go_wp2_with fail
  go_ret
  exact ⟨_, rfl, HR.out, HB.out⟩
/-! Spoil -/
theorem reads_set {W : World} {g n : Nat} {bs : List Int} (h : ReadsInt W .u8 (some ⟨g, 0, none⟩) n bs) (a : Nat) (ha : a < n) (z : Int) : ReadsInt (W.setCell ⟨g, a, none⟩ (.int .u8 z)) .u8 (some ⟨g, 0, none⟩) n (bs.set a z) := by
  obtain ⟨h1, h2, h3⟩ := h
  refine ⟨by rw [List.length_set]; exact h1, h2, fun h0 => ?_⟩
  obtain ⟨ad, he, hc⟩ := h3 h0
  obtain rfl : (⟨g, 0, none⟩ : Addr) = ad := Option.some.inj he
  refine ⟨_, rfl, fun i hi => ?_⟩
  have hi' := hc i hi
  have ha' := hc a ha
  rw [add_plain] at hi' ha' ⊢
  by_cases e : a = i
  · subst e
    rw [World.cell?_setCell_same (h := ha')]
    rw [List.getD_eq_getElem?_getD, List.getElem?_set_self (by omega)]; rfl
  · rw [World.cell?_setCell_other (h := (by intro hh; injection hh with _ h2; exact e h2)), hi', List.getD_eq_getElem?_getD, List.getD_eq_getElem?_getD, List.getElem?_set_ne e]
theorem TBox.stepB {w : World} {x y iv : Value} {W V : World} (h : TBox w x y iv W) (hb : Below (w.heap.size + 3) W V) : TBox w x y iv V :=
  ⟨h.below.trans (hb.mono (by omega)), h.n.below hb (by omega), (hb.block _ (by omega)).trans h.i, h.r.below hb (by omega), Nat.le_trans h.sz hb.size⟩
theorem frozen_heap {V W : World} {b : Nat} (h : V.heap[b]? = W.heap[b]?) (o : Nat) : V.frozen? ⟨b, o, none⟩ = W.frozen? ⟨b, o, none⟩ := by
  unfold World.frozen?; rw [h]
set_option maxRecDepth 100000 in
set_option maxHeartbeats 4000000 in
theorem spoil_in_up (A0 : Option Addr) (c0 : Nat) (A1 : Option Addr) (n1 c1 : Nat) (i a : Nat) (y : UInt8) (ub : Int) (s : ByteArray) (hs : s.size ≤ 9223372036854775807) (xs : List ByteArray) (w : World) (hr : Kd.C Kd.string w A0 xs.length xs) (hcap : xs.length ≤ c0) (hm : xs.length ≤ 8796093022208) (hi : i < xs.length) (ha : a < s.size) (pp : ByteArray) (hpp : putAt s a (s.data.toList.getD a 0 ^^^ y) = pp)
    (hmem : T.net_member_string.f xs (i : Int) = some (s, true)) (hmb : T.net_member_byte.f (bytesOf s) (a : Int) = some (ub, true)) :
    Calls Try.prog 11 #[.agg #[.slice A0 xs.length c0, .slice A1 n1 c1], .bool true, .int .i64 (i : Int), .int .i64 (a : Int), .int .u8 y.toNat] w fun e w' => ∃ v, e = .returned (.tuple #[.agg #[v, .slice A1 n1 c1], .bool true]) ∧ Kd.R Kd.string 9 w' w.heap.size (fun _ => True) v (xs.set i pp) ∧ Below w.heap.size w w' := by
  have hmc : ∀ V, Below w.heap.size w V → Calls Try.prog 17 #[.slice A0 xs.length c0, .int .i64 (i : Int)] V fun e w' => e = .returned (.tuple #[.string s, .bool true]) ∧ Drawn0 V w' := fun V hV =>
    T.net_member_string.calls A0 c0 xs (i : Int) s true V (Kd.C_below hr hV) hcap hmem
  have hmd : ∀ V A c, ReadsInt V .u8 A s.size (bytesOf s) → s.size ≤ c → Calls Try.prog 22 #[.slice A s.size c, .int .i64 (a : Int)] V fun e w' => e = .returned (.tuple #[.int .u8 ub, .bool true]) ∧ Drawn0 V w' := fun V A c hV hc => by
    have hl : s.size = (bytesOf s).length := (bytesOf_length s).symm
    rw [hl] at hV hc ⊢
    exact T.net_member_byte.calls A c (bytesOf s) (a : Int) ub true V (Kd.C_of_reads hV) hc hmb
  have hrow : ∀ V, Calls Try.prog 18 #[.agg #[.slice A0 xs.length c0, .slice A1 n1 c1], .bool true] V fun e w' => e = .returned (.slice A0 xs.length c0) ∧ Below V.heap.size V w' := fun V => net_row_calls A0 xs.length c0 A1 n1 c1 true V
  have HT3 := Lib.hid (TBox.start w (.slice A0 xs.length c0) (.slice A1 n1 c1) (.int .i64 (i : Int))).draw
  have HR := Lib.hid hr; have HMEM := Lib.hid hmc; have HROW := Lib.hid hrow; have HMB := Lib.hid hmd
  clear hr hmc hrow hmem hmb hmd
  go_enter Try.func11, Try.ntmps11
  go_wp2_with fail
  refine start_ (n := 10) (S := fun w' => w'.cell? ⟨w.heap.size, 0, none⟩ = some (.slice A0 xs.length c0) ∧ w'.cell? ⟨w.heap.size, 1, none⟩ = some (.slice A1 n1 c1) ∧ w'.cell? ⟨w.heap.size + 1, 0, none⟩ = some (.int .i64 (i : Int))) (ds := []) #[false, false, false, false, false, false, false, false, false, false] (by kernel_rfl) rfl rfl ⟨HT3.out.n.cells.1, HT3.out.n.cells.2.1, HT3.out.icell⟩ (fun hHeld => ?_)
  refine pure_ (i := 1) (N := some 19) (v := ?_) (a' := ?_) #[false, true, false, false, false, false, false, false, false, false] rfl rfl (by kernel_rfl) (fun _ _ _ h => h) (Or.inl ⟨by rfl, ?_⟩) ?_ ?_
  rotate_left
  · intro w'
    go_simp
    with_reducible rfl
  rotate_left
  · simp only [Act.put, List.setIfInBounds_toArray, List.set_cons_zero, List.set_cons_succ, i64_w, i32_w]
    rfl
  refine take_ (i := 0) (N := some 18) (v := ?_) (a' := ?_) #[true, true, false, false, false, false, false, false, false, false] rfl rfl (by kernel_rfl) (fun _ _ _ h => h) (Or.inl ⟨by rfl, ?_⟩) hHeld ?_ ?_
  rotate_left
  · rintro w' ⟨s0, s1, s2⟩
    go_simp
    with_reducible rfl
  rotate_left
  · simp only [Act.put, List.setIfInBounds_toArray, List.set_cons_zero, List.set_cons_succ, i64_w, i32_w]
    rfl
  refine take_ (i := 3) (N := some 21) (v := ?_) (a' := ?_) #[true, true, false, true, false, false, false, false, false, false] rfl rfl (by kernel_rfl) (fun _ _ _ h => h) (Or.inl ⟨by rfl, ?_⟩) hHeld ?_ ?_
  rotate_left
  · rintro w' ⟨s0, s1, s2⟩
    go_simp
    with_reducible rfl
  rotate_left
  · simp only [Act.put, List.setIfInBounds_toArray, List.set_cons_zero, List.set_cons_succ, i64_w, i32_w]
    rfl
  refine one_ (i := 2) (N := some 20) #[true, true, true, true, false, false, false, false, false, false] rfl rfl (by kernel_rfl) (by decide) (fun K hK => ?_)
  refine goes_ Try.func18 (by kernel_rfl) rfl #[.agg #[.slice A0 xs.length c0, .slice A1 n1 c1], .bool true] (by rfl) rfl rfl (by simp only [List.map_toArray, List.map_cons, List.map_nil]; rfl) ?_
  with_reducible refine (HROW.out _).mono ?_
  rintro e w4 ⟨rfl, hb⟩
  refine ⟨_, rfl, ?_⟩
  have HT4 := Lib.hid (HT3.out.step hb)
  clear hb
  refine hK.out _ _ ⟨HT4.out.n.cells.1, HT4.out.n.cells.2.1, HT4.out.icell⟩ (fun hHeld => ?_)
  clear hK K
  refine norm_ (a' := ?_) ?_ ?_
  rotate_left
  · show Act.put _ (some 20) _ = _
    simp only [Act.put, List.setIfInBounds_toArray, List.set_cons_zero, List.set_cons_succ, i64_w, i32_w]
    rfl
  refine one_ (i := 4) (N := some 22) #[true, true, true, true, true, false, false, false, false, false] rfl rfl (by kernel_rfl) (by decide) (fun K hK => ?_)
  refine goes_ Try.func17 (by kernel_rfl) rfl #[.slice A0 xs.length c0, .int .i64 (i : Int)] (by rfl) rfl rfl (by simp only [List.map_toArray, List.map_cons, List.map_nil]; rfl) ?_
  with_reducible refine ((HMEM.out _ HT4.out.below)).mono ?_
  rintro e w5 ⟨rfl, hd⟩
  refine ⟨_, rfl, ?_⟩
  have HT5 := Lib.hid (HT4.out.drawn hd)
  clear hd
  refine hK.out _ _ ⟨HT5.out.n.cells.1, HT5.out.n.cells.2.1, HT5.out.icell⟩ (fun hHeld => ?_)
  clear hK K
  refine norm_ (a' := ?_) ?_ ?_
  rotate_left
  · show Act.put _ (some 22) _ = _
    simp only [Act.put, List.setIfInBounds_toArray, List.set_cons_zero, List.set_cons_succ, i64_w, i32_w]
    rfl
  refine pure_ (i := 5) (N := some 17) (v := ?_) (a' := ?_) #[true, true, true, true, true, true, false, false, false, false] rfl rfl (by kernel_rfl) (fun _ _ _ h => h) (Or.inl ⟨by rfl, ?_⟩) ?_ ?_
  rotate_left
  · intro w'
    go_simp
    with_reducible rfl
  rotate_left
  · simp only [Act.put, List.setIfInBounds_toArray, List.set_cons_zero, List.set_cons_succ, i64_w, i32_w]
    rfl
  refine pure_ (i := 6) (N := some 23) (v := ?_) (a' := ?_) #[true, true, true, true, true, true, true, false, false, false] rfl rfl (by kernel_rfl) (fun _ _ _ h => h) (Or.inl ⟨by rfl, ?_⟩) ?_ ?_
  rotate_left
  · intro w'
    go_simp
    with_reducible rfl
  rotate_left
  · simp only [Act.put, List.setIfInBounds_toArray, List.set_cons_zero, List.set_cons_succ, i64_w, i32_w]
    rfl
  refine pure_ (i := 7) (N := some 24) (v := ?_) (a' := ?_) #[true, true, true, true, true, true, true, true, false, false] rfl rfl (by kernel_rfl) (fun _ _ _ h => h) (Or.inl ⟨by rfl, ?_⟩) ?_ ?_
  rotate_left
  · intro w'
    go_simp
    with_reducible rfl
  rotate_left
  · simp only [Act.put, List.setIfInBounds_toArray, List.set_cons_zero, List.set_cons_succ, i64_w, i32_w]
    rfl
  refine pure_ (i := 8) (N := some 12) (v := ?_) (a' := ?_) #[true, true, true, true, true, true, true, true, true, false] rfl rfl (by kernel_rfl) (fun _ _ _ h => h) (Or.inl ⟨by rfl, ?_⟩) ?_ ?_
  rotate_left
  · intro w'
    go_simp
    with_reducible rfl
  rotate_left
  · simp only [Act.put, List.setIfInBounds_toArray, List.set_cons_zero, List.set_cons_succ, i64_w, i32_w]
    rfl
  refine pure_ (i := 9) (N := some 13) (v := ?_) (a' := ?_) #[true, true, true, true, true, true, true, true, true, true] rfl rfl (by kernel_rfl) (fun _ _ _ h => h) (Or.inl ⟨by rfl, ?_⟩) ?_ ?_
  rotate_left
  · intro w'
    go_simp
    with_reducible rfl
  rotate_left
  · simp only [Act.put, List.setIfInBounds_toArray, List.set_cons_zero, List.set_cons_succ, i64_w, i32_w]
    rfl
  refine done_ (by kernel_rfl) ?_
  have kb5 := print_bytes (P := Try.prog) 9 50 5 Try.underlying9 Try.underlying50 Try.underlying5 s w5
  obtain ⟨cap, hcapd⟩ : ∃ cap, cap = grownCap w5 s.size 0 5 := ⟨_, rfl⟩
  have hge : s.size ≤ cap := by rw [hcapd]; exact grownCap_ge _ _ _ _
  rw [← hcapd] at kb5
  obtain ⟨b8, hb8e⟩ : ∃ b8, b8 = (Lib.bytesWorld w5 5 s).heap.size := ⟨_, rfl⟩
  obtain ⟨W8, hW8⟩ : ∃ W8, W8 = (Lib.bytesWorld w5 5 s).alloc (.cells #[.slice (some ⟨w5.heap.size, 0, none⟩) s.size cap] 50) := ⟨_, rfl⟩
  have hb6 := bytes_below (Below.refl w5.heap.size w5) (Nat.le_refl _) 5 s
  have z6 := Lib.bytesWorld_size w5 5 s
  have hb68 : Below (Lib.bytesWorld w5 5 s).heap.size (Lib.bytesWorld w5 5 s) W8 := by rw [hW8]; exact (Below.refl _ _).alloc (Nat.le_refl _) _
  have hb8 : Below w5.heap.size w5 W8 := hb6.trans (hb68.mono (by omega))
  have hbox8 : W8.heap[b8]? = some (.cells #[.slice (some ⟨w5.heap.size, 0, none⟩) s.size cap] 50 (0, 0)) := by rw [hW8, hb8e]; exact heap_alloc_new _ _
  have hrd8 := (bytes_reads w5 5 s hs).below hb68
  have hfz8 := (frozen_heap (hb68.block w5.heap.size (by omega)) a).trans (bw_frozen w5 5 s a ha)
  have hcl8 := (hb68.cell (p := ⟨w5.heap.size, a, none⟩) (by show w5.heap.size < _; omega)).trans (bw_cell w5 5 s a ha)
  have HT8 := Lib.hid (HT5.out.step hb8)
  have HMB8 := Lib.hid (HMB.out W8 (some ⟨w5.heap.size, 0, none⟩) cap hrd8 hge)
  have hcb : W8.cell? ⟨b8, 0, none⟩ = some (.slice (some ⟨w5.heap.size, 0, none⟩) s.size cap) := by rw [blk_cell hbox8]; rfl
  rw [hb8e, hW8] at hcb
  rw [hW8] at HMB8
  have HBOX8 := Lib.hid hbox8; have HRD8 := Lib.hid hrd8; have HFZ8 := Lib.hid hfz8; have HCL8 := Lib.hid hcl8; have HW8 := Lib.hid hW8; have HB8E := Lib.hid hb8e; have HZ6 := Lib.hid z6; have H5 := Lib.hid HT5.out.sz
  clear hb6 hb68 hb8 hbox8 hrd8 hfz8 hcl8 hW8 hge hcapd hb8e z6
  go_wp2_with fail
  refine HMB8.out.mono ?_
  rw [← HW8.out, ← HB8E.out]
  rintro e w9 ⟨rfl, hd9⟩
  have HT9 := Lib.hid (HT8.out.drawn hd9)
  obtain ⟨q9, rfl⟩ := hd9
  have h6 := HZ6.out; have h8 := HB8E.out; have h5 := H5.out
  have hbox9 : (W8.drewN q9).heap[b8]? = some (.cells #[.slice (some ⟨w5.heap.size, 0, none⟩) s.size cap] 50 (0, 0)) := HBOX8.out
  have hrd9 : ReadsInt (W8.drewN q9) .u8 (some ⟨w5.heap.size, 0, none⟩) s.size (bytesOf s) := HRD8.out.drewN q9
  have hcl9 : (W8.drewN q9).cell? ⟨w5.heap.size, a, none⟩ = some (.int .u8 ((s.data.toList.getD a 0).toNat : Int)) := HCL8.out
  have hfz9 : (W8.drewN q9).frozen? ⟨w5.heap.size, a, none⟩ = false := HFZ8.out
  generalize W8.drewN q9 = w9 at *
  have hcb9 : w9.cell? ⟨b8, 0, none⟩ = some (.slice (some ⟨w5.heap.size, 0, none⟩) s.size cap) := by rw [blk_cell hbox9]; rfl
  have hx := bits_xor_u8 (s.data.toList.getD a 0) y
  have haz : (a : Int) < (s.size : Int) := by omega
  have HT10 := Lib.hid (HT9.out.stepB ((Below.refl (w.heap.size + 3) w9).setCell (p := ⟨w5.heap.size, a, none⟩) h5 (.int .u8 ((s.data.toList.getD a 0 ^^^ y).toNat : Int))))
  have hp := (strOf_set s a (s.data.toList.getD a 0 ^^^ y)).trans hpp
  have HTC := Lib.hid (turned_up A0 c0 A1 n1 c1 23 #[.pointer (some ⟨b8, 0, none⟩), .pointer (some ⟨w.heap.size + 1, 0, none⟩)] xs (xs.set i pp) (w9.setCell ⟨w5.heap.size, a, none⟩ (.int .u8 ((s.data.toList.getD a 0 ^^^ y).toNat : Int))) (Kd.C_below HR.out HT10.out.below) (by omega) (enters_of Try.func23 (by kernel_rfl) rfl)
    (spoil1_turns b8 (w.heap.size + 1) w5.heap.size s.size cap _ i _ xs _ (blk_far hbox9 (by show b8 ≠ w5.heap.size; omega) _) HT10.out.i (reads_set hrd9 a ha _) hp (by omega) hi))
  obtain ⟨q0, q1, _, _⟩ := HT10.out.n.cells
  clear hp hpp hbox9 hrd9 h6 h8 h5
  generalize (s.data.toList.getD a 0 ^^^ y) = yy at *
  generalize s.data.toList.getD a 0 = xx at *
  go_wp2_with fail
  refine HTC.out.mono ?_
  rintro e w11 ⟨v, rfl, hR, hb⟩
  obtain ⟨A, c, rfl⟩ := Kd.R_slice hR
  have HT11 := Lib.hid (HT10.out.step hb)
  have HR11 := Lib.hid hR
  have h10 := HT10.out.sz
  obtain ⟨x0, x1, x2, x3⟩ := HT11.out.r.cells
  clear hR hb q0 q1
  go_wp2_with fail
  refine bodyPost_ret (v := .tuple #[.agg #[.slice A (xs.set i pp).length c, .slice A1 n1 c1], .bool true]) (by simp [results, Try.results11, go_sem, x0, x1]) rfl ⟨.slice A (xs.set i pp).length c, by first | rfl | (simp; done), ?_, ?_⟩
  · exact Kd.R_mono (Kd.R_lower (Kd.R_far (p := ⟨w.heap.size + 1 + 1, 1, none⟩) (Kd.R_far (p := ⟨w.heap.size + 1 + 1, 0, none⟩) (Kd.R_bound HR11.out) (fun k hk => by have h := hk.2.1; show k ≠ w.heap.size + 1 + 1; have h3 : w.heap.size + 3 ≤ k := Nat.le_trans h10 h; omega) _) (fun k hk => by have h := hk.2.1; show k ≠ w.heap.size + 1 + 1; have h3 : w.heap.size + 3 ≤ k := Nat.le_trans h10 h; omega) _) (Nat.le_trans (by omega) h10)) (fun _ _ => trivial)
  · exact (HT11.out.below.setCell (p := ⟨w.heap.size + 2, 0, none⟩) (show w.heap.size ≤ w.heap.size + 2 by omega) _).setCell (p := ⟨w.heap.size + 2, 1, none⟩) (show w.heap.size ≤ w.heap.size + 2 by omega) _
set_option maxRecDepth 100000 in
set_option maxHeartbeats 4000000 in
theorem spoil_in_down (A0 : Option Addr) (n0 c0 : Nat) (A1 : Option Addr) (c1 : Nat) (i a : Nat) (y : UInt8) (ub : Int) (s : ByteArray) (hs : s.size ≤ 9223372036854775807) (xs : List ByteArray) (w : World) (hr : Kd.C Kd.string w A1 xs.length xs) (hcap : xs.length ≤ c1) (hm : xs.length ≤ 8796093022208) (hi : i < xs.length) (ha : a < s.size) (pp : ByteArray) (hpp : putAt s a (s.data.toList.getD a 0 ^^^ y) = pp)
    (hmem : T.net_member_string.f xs (i : Int) = some (s, true)) (hmb : T.net_member_byte.f (bytesOf s) (a : Int) = some (ub, true)) :
    Calls Try.prog 11 #[.agg #[.slice A0 n0 c0, .slice A1 xs.length c1], .bool false, .int .i64 (i : Int), .int .i64 (a : Int), .int .u8 y.toNat] w fun e w' => ∃ v, e = .returned (.tuple #[.agg #[.slice A0 n0 c0, v], .bool true]) ∧ Kd.R Kd.string 9 w' w.heap.size (fun _ => True) v (xs.set i pp) ∧ Below w.heap.size w w' := by
  have hmc : ∀ V, Below w.heap.size w V → Calls Try.prog 17 #[.slice A1 xs.length c1, .int .i64 (i : Int)] V fun e w' => e = .returned (.tuple #[.string s, .bool true]) ∧ Drawn0 V w' := fun V hV =>
    T.net_member_string.calls A1 c1 xs (i : Int) s true V (Kd.C_below hr hV) hcap hmem
  have hmd : ∀ V A c, ReadsInt V .u8 A s.size (bytesOf s) → s.size ≤ c → Calls Try.prog 22 #[.slice A s.size c, .int .i64 (a : Int)] V fun e w' => e = .returned (.tuple #[.int .u8 ub, .bool true]) ∧ Drawn0 V w' := fun V A c hV hc => by
    have hl : s.size = (bytesOf s).length := (bytesOf_length s).symm
    rw [hl] at hV hc ⊢
    exact T.net_member_byte.calls A c (bytesOf s) (a : Int) ub true V (Kd.C_of_reads hV) hc hmb
  have hrow : ∀ V, Calls Try.prog 18 #[.agg #[.slice A0 n0 c0, .slice A1 xs.length c1], .bool false] V fun e w' => e = .returned (.slice A1 xs.length c1) ∧ Below V.heap.size V w' := fun V => net_row_calls A0 n0 c0 A1 xs.length c1 false V
  have HT3 := Lib.hid (TBox.start w (.slice A0 n0 c0) (.slice A1 xs.length c1) (.int .i64 (i : Int))).draw
  have HR := Lib.hid hr; have HMEM := Lib.hid hmc; have HROW := Lib.hid hrow; have HMB := Lib.hid hmd
  clear hr hmc hrow hmem hmb hmd
  go_enter Try.func11, Try.ntmps11
  go_wp2_with fail
  refine start_ (n := 10) (S := fun w' => w'.cell? ⟨w.heap.size, 0, none⟩ = some (.slice A0 n0 c0) ∧ w'.cell? ⟨w.heap.size, 1, none⟩ = some (.slice A1 xs.length c1) ∧ w'.cell? ⟨w.heap.size + 1, 0, none⟩ = some (.int .i64 (i : Int))) (ds := []) #[false, false, false, false, false, false, false, false, false, false] (by kernel_rfl) rfl rfl ⟨HT3.out.n.cells.1, HT3.out.n.cells.2.1, HT3.out.icell⟩ (fun hHeld => ?_)
  refine pure_ (i := 1) (N := some 19) (v := ?_) (a' := ?_) #[false, true, false, false, false, false, false, false, false, false] rfl rfl (by kernel_rfl) (fun _ _ _ h => h) (Or.inl ⟨by rfl, ?_⟩) ?_ ?_
  rotate_left
  · intro w'
    go_simp
    with_reducible rfl
  rotate_left
  · simp only [Act.put, List.setIfInBounds_toArray, List.set_cons_zero, List.set_cons_succ, i64_w, i32_w]
    rfl
  refine take_ (i := 0) (N := some 18) (v := ?_) (a' := ?_) #[true, true, false, false, false, false, false, false, false, false] rfl rfl (by kernel_rfl) (fun _ _ _ h => h) (Or.inl ⟨by rfl, ?_⟩) hHeld ?_ ?_
  rotate_left
  · rintro w' ⟨s0, s1, s2⟩
    go_simp
    with_reducible rfl
  rotate_left
  · simp only [Act.put, List.setIfInBounds_toArray, List.set_cons_zero, List.set_cons_succ, i64_w, i32_w]
    rfl
  refine take_ (i := 3) (N := some 21) (v := ?_) (a' := ?_) #[true, true, false, true, false, false, false, false, false, false] rfl rfl (by kernel_rfl) (fun _ _ _ h => h) (Or.inl ⟨by rfl, ?_⟩) hHeld ?_ ?_
  rotate_left
  · rintro w' ⟨s0, s1, s2⟩
    go_simp
    with_reducible rfl
  rotate_left
  · simp only [Act.put, List.setIfInBounds_toArray, List.set_cons_zero, List.set_cons_succ, i64_w, i32_w]
    rfl
  refine one_ (i := 2) (N := some 20) #[true, true, true, true, false, false, false, false, false, false] rfl rfl (by kernel_rfl) (by decide) (fun K hK => ?_)
  refine goes_ Try.func18 (by kernel_rfl) rfl #[.agg #[.slice A0 n0 c0, .slice A1 xs.length c1], .bool false] (by rfl) rfl rfl (by simp only [List.map_toArray, List.map_cons, List.map_nil]; rfl) ?_
  with_reducible refine (HROW.out _).mono ?_
  rintro e w4 ⟨rfl, hb⟩
  refine ⟨_, rfl, ?_⟩
  have HT4 := Lib.hid (HT3.out.step hb)
  clear hb
  refine hK.out _ _ ⟨HT4.out.n.cells.1, HT4.out.n.cells.2.1, HT4.out.icell⟩ (fun hHeld => ?_)
  clear hK K
  refine norm_ (a' := ?_) ?_ ?_
  rotate_left
  · show Act.put _ (some 20) _ = _
    simp only [Act.put, List.setIfInBounds_toArray, List.set_cons_zero, List.set_cons_succ, i64_w, i32_w]
    rfl
  refine one_ (i := 4) (N := some 22) #[true, true, true, true, true, false, false, false, false, false] rfl rfl (by kernel_rfl) (by decide) (fun K hK => ?_)
  refine goes_ Try.func17 (by kernel_rfl) rfl #[.slice A1 xs.length c1, .int .i64 (i : Int)] (by rfl) rfl rfl (by simp only [List.map_toArray, List.map_cons, List.map_nil]; rfl) ?_
  with_reducible refine ((HMEM.out _ HT4.out.below)).mono ?_
  rintro e w5 ⟨rfl, hd⟩
  refine ⟨_, rfl, ?_⟩
  have HT5 := Lib.hid (HT4.out.drawn hd)
  clear hd
  refine hK.out _ _ ⟨HT5.out.n.cells.1, HT5.out.n.cells.2.1, HT5.out.icell⟩ (fun hHeld => ?_)
  clear hK K
  refine norm_ (a' := ?_) ?_ ?_
  rotate_left
  · show Act.put _ (some 22) _ = _
    simp only [Act.put, List.setIfInBounds_toArray, List.set_cons_zero, List.set_cons_succ, i64_w, i32_w]
    rfl
  refine pure_ (i := 5) (N := some 17) (v := ?_) (a' := ?_) #[true, true, true, true, true, true, false, false, false, false] rfl rfl (by kernel_rfl) (fun _ _ _ h => h) (Or.inl ⟨by rfl, ?_⟩) ?_ ?_
  rotate_left
  · intro w'
    go_simp
    with_reducible rfl
  rotate_left
  · simp only [Act.put, List.setIfInBounds_toArray, List.set_cons_zero, List.set_cons_succ, i64_w, i32_w]
    rfl
  refine pure_ (i := 6) (N := some 23) (v := ?_) (a' := ?_) #[true, true, true, true, true, true, true, false, false, false] rfl rfl (by kernel_rfl) (fun _ _ _ h => h) (Or.inl ⟨by rfl, ?_⟩) ?_ ?_
  rotate_left
  · intro w'
    go_simp
    with_reducible rfl
  rotate_left
  · simp only [Act.put, List.setIfInBounds_toArray, List.set_cons_zero, List.set_cons_succ, i64_w, i32_w]
    rfl
  refine pure_ (i := 7) (N := some 24) (v := ?_) (a' := ?_) #[true, true, true, true, true, true, true, true, false, false] rfl rfl (by kernel_rfl) (fun _ _ _ h => h) (Or.inl ⟨by rfl, ?_⟩) ?_ ?_
  rotate_left
  · intro w'
    go_simp
    with_reducible rfl
  rotate_left
  · simp only [Act.put, List.setIfInBounds_toArray, List.set_cons_zero, List.set_cons_succ, i64_w, i32_w]
    rfl
  refine pure_ (i := 8) (N := some 12) (v := ?_) (a' := ?_) #[true, true, true, true, true, true, true, true, true, false] rfl rfl (by kernel_rfl) (fun _ _ _ h => h) (Or.inl ⟨by rfl, ?_⟩) ?_ ?_
  rotate_left
  · intro w'
    go_simp
    with_reducible rfl
  rotate_left
  · simp only [Act.put, List.setIfInBounds_toArray, List.set_cons_zero, List.set_cons_succ, i64_w, i32_w]
    rfl
  refine pure_ (i := 9) (N := some 13) (v := ?_) (a' := ?_) #[true, true, true, true, true, true, true, true, true, true] rfl rfl (by kernel_rfl) (fun _ _ _ h => h) (Or.inl ⟨by rfl, ?_⟩) ?_ ?_
  rotate_left
  · intro w'
    go_simp
    with_reducible rfl
  rotate_left
  · simp only [Act.put, List.setIfInBounds_toArray, List.set_cons_zero, List.set_cons_succ, i64_w, i32_w]
    rfl
  refine done_ (by kernel_rfl) ?_
  have kb5 := print_bytes (P := Try.prog) 9 50 5 Try.underlying9 Try.underlying50 Try.underlying5 s w5
  obtain ⟨cap, hcapd⟩ : ∃ cap, cap = grownCap w5 s.size 0 5 := ⟨_, rfl⟩
  have hge : s.size ≤ cap := by rw [hcapd]; exact grownCap_ge _ _ _ _
  rw [← hcapd] at kb5
  obtain ⟨b8, hb8e⟩ : ∃ b8, b8 = (Lib.bytesWorld w5 5 s).heap.size := ⟨_, rfl⟩
  obtain ⟨W8, hW8⟩ : ∃ W8, W8 = (Lib.bytesWorld w5 5 s).alloc (.cells #[.slice (some ⟨w5.heap.size, 0, none⟩) s.size cap] 50) := ⟨_, rfl⟩
  have hb6 := bytes_below (Below.refl w5.heap.size w5) (Nat.le_refl _) 5 s
  have z6 := Lib.bytesWorld_size w5 5 s
  have hb68 : Below (Lib.bytesWorld w5 5 s).heap.size (Lib.bytesWorld w5 5 s) W8 := by rw [hW8]; exact (Below.refl _ _).alloc (Nat.le_refl _) _
  have hb8 : Below w5.heap.size w5 W8 := hb6.trans (hb68.mono (by omega))
  have hbox8 : W8.heap[b8]? = some (.cells #[.slice (some ⟨w5.heap.size, 0, none⟩) s.size cap] 50 (0, 0)) := by rw [hW8, hb8e]; exact heap_alloc_new _ _
  have hrd8 := (bytes_reads w5 5 s hs).below hb68
  have hfz8 := (frozen_heap (hb68.block w5.heap.size (by omega)) a).trans (bw_frozen w5 5 s a ha)
  have hcl8 := (hb68.cell (p := ⟨w5.heap.size, a, none⟩) (by show w5.heap.size < _; omega)).trans (bw_cell w5 5 s a ha)
  have HT8 := Lib.hid (HT5.out.step hb8)
  have HMB8 := Lib.hid (HMB.out W8 (some ⟨w5.heap.size, 0, none⟩) cap hrd8 hge)
  have hcb : W8.cell? ⟨b8, 0, none⟩ = some (.slice (some ⟨w5.heap.size, 0, none⟩) s.size cap) := by rw [blk_cell hbox8]; rfl
  rw [hb8e, hW8] at hcb
  rw [hW8] at HMB8
  have HBOX8 := Lib.hid hbox8; have HRD8 := Lib.hid hrd8; have HFZ8 := Lib.hid hfz8; have HCL8 := Lib.hid hcl8; have HW8 := Lib.hid hW8; have HB8E := Lib.hid hb8e; have HZ6 := Lib.hid z6; have H5 := Lib.hid HT5.out.sz
  clear hb6 hb68 hb8 hbox8 hrd8 hfz8 hcl8 hW8 hge hcapd hb8e z6
  go_wp2_with fail
  refine HMB8.out.mono ?_
  rw [← HW8.out, ← HB8E.out]
  rintro e w9 ⟨rfl, hd9⟩
  have HT9 := Lib.hid (HT8.out.drawn hd9)
  obtain ⟨q9, rfl⟩ := hd9
  have h6 := HZ6.out; have h8 := HB8E.out; have h5 := H5.out
  have hbox9 : (W8.drewN q9).heap[b8]? = some (.cells #[.slice (some ⟨w5.heap.size, 0, none⟩) s.size cap] 50 (0, 0)) := HBOX8.out
  have hrd9 : ReadsInt (W8.drewN q9) .u8 (some ⟨w5.heap.size, 0, none⟩) s.size (bytesOf s) := HRD8.out.drewN q9
  have hcl9 : (W8.drewN q9).cell? ⟨w5.heap.size, a, none⟩ = some (.int .u8 ((s.data.toList.getD a 0).toNat : Int)) := HCL8.out
  have hfz9 : (W8.drewN q9).frozen? ⟨w5.heap.size, a, none⟩ = false := HFZ8.out
  generalize W8.drewN q9 = w9 at *
  have hcb9 : w9.cell? ⟨b8, 0, none⟩ = some (.slice (some ⟨w5.heap.size, 0, none⟩) s.size cap) := by rw [blk_cell hbox9]; rfl
  have hx := bits_xor_u8 (s.data.toList.getD a 0) y
  have haz : (a : Int) < (s.size : Int) := by omega
  have HT10 := Lib.hid (HT9.out.stepB ((Below.refl (w.heap.size + 3) w9).setCell (p := ⟨w5.heap.size, a, none⟩) h5 (.int .u8 ((s.data.toList.getD a 0 ^^^ y).toNat : Int))))
  have hp := (strOf_set s a (s.data.toList.getD a 0 ^^^ y)).trans hpp
  have HTC := Lib.hid (turned_down A0 n0 c0 A1 c1 23 #[.pointer (some ⟨b8, 0, none⟩), .pointer (some ⟨w.heap.size + 1, 0, none⟩)] xs (xs.set i pp) (w9.setCell ⟨w5.heap.size, a, none⟩ (.int .u8 ((s.data.toList.getD a 0 ^^^ y).toNat : Int))) (Kd.C_below HR.out HT10.out.below) (by omega) (enters_of Try.func23 (by kernel_rfl) rfl)
    (spoil1_turns b8 (w.heap.size + 1) w5.heap.size s.size cap _ i _ xs _ (blk_far hbox9 (by show b8 ≠ w5.heap.size; omega) _) HT10.out.i (reads_set hrd9 a ha _) hp (by omega) hi))
  obtain ⟨q0, q1, _, _⟩ := HT10.out.n.cells
  clear hp hpp hbox9 hrd9 h6 h8 h5
  generalize (s.data.toList.getD a 0 ^^^ y) = yy at *
  generalize s.data.toList.getD a 0 = xx at *
  go_wp2_with fail
  refine HTC.out.mono ?_
  rintro e w11 ⟨v, rfl, hR, hb⟩
  obtain ⟨A, c, rfl⟩ := Kd.R_slice hR
  have HT11 := Lib.hid (HT10.out.step hb)
  have HR11 := Lib.hid hR
  have h10 := HT10.out.sz
  obtain ⟨x0, x1, x2, x3⟩ := HT11.out.r.cells
  clear hR hb q0 q1
  go_wp2_with fail
  refine bodyPost_ret (v := .tuple #[.agg #[.slice A0 n0 c0, .slice A (xs.set i pp).length c], .bool true]) (by simp [results, Try.results11, go_sem, x0, x1]) rfl ⟨.slice A (xs.set i pp).length c, by first | rfl | (simp; done), ?_, ?_⟩
  · exact Kd.R_mono (Kd.R_lower (Kd.R_far (p := ⟨w.heap.size + 1 + 1, 1, none⟩) (Kd.R_far (p := ⟨w.heap.size + 1 + 1, 0, none⟩) (Kd.R_bound HR11.out) (fun k hk => by have h := hk.2.1; show k ≠ w.heap.size + 1 + 1; have h3 : w.heap.size + 3 ≤ k := Nat.le_trans h10 h; omega) _) (fun k hk => by have h := hk.2.1; show k ≠ w.heap.size + 1 + 1; have h3 : w.heap.size + 3 ≤ k := Nat.le_trans h10 h; omega) _) (Nat.le_trans (by omega) h10)) (fun _ _ => trivial)
  · exact (HT11.out.below.setCell (p := ⟨w.heap.size + 2, 0, none⟩) (show w.heap.size ≤ w.heap.size + 2 by omega) _).setCell (p := ⟨w.heap.size + 2, 1, none⟩) (show w.heap.size ≤ w.heap.size + 2 by omega) _
set_option maxRecDepth 100000 in
set_option maxHeartbeats 4000000 in
theorem spoil_outa_up (A0 : Option Addr) (c0 : Nat) (A1 : Option Addr) (n1 c1 : Nat) (i a : Int) (kb : Bool) (yv ub : Int) (s : ByteArray) (hs : s.size ≤ 9223372036854775807) (xs : List ByteArray) (w : World) (hr : Kd.C Kd.string w A0 xs.length xs) (hcap : xs.length ≤ c0) 
    (hmem : T.net_member_string.f xs i = some (s, false)) (hmb : T.net_member_byte.f (bytesOf s) a = some (ub, kb)) :
    Calls Try.prog 11 #[.agg #[.slice A0 xs.length c0, .slice A1 n1 c1], .bool true, .int .i64 i, .int .i64 a, .int .u8 yv] w fun e w' => e = .returned (.tuple #[.agg #[.slice A0 xs.length c0, .slice A1 n1 c1], .bool false]) ∧ Below w.heap.size w w' := by
  have hmc : ∀ V, Below w.heap.size w V → Calls Try.prog 17 #[.slice A0 xs.length c0, .int .i64 (i : Int)] V fun e w' => e = .returned (.tuple #[.string s, .bool false]) ∧ Drawn0 V w' := fun V hV =>
    T.net_member_string.calls A0 c0 xs i s false V (Kd.C_below hr hV) hcap hmem
  have hmd : ∀ V A c, ReadsInt V .u8 A s.size (bytesOf s) → s.size ≤ c → Calls Try.prog 22 #[.slice A s.size c, .int .i64 a] V fun e w' => e = .returned (.tuple #[.int .u8 ub, .bool kb]) ∧ Drawn0 V w' := fun V A c hV hc => by
    have hl : s.size = (bytesOf s).length := (bytesOf_length s).symm
    rw [hl] at hV hc ⊢
    exact T.net_member_byte.calls A c (bytesOf s) a ub kb V (Kd.C_of_reads hV) hc hmb
  have hrow : ∀ V, Calls Try.prog 18 #[.agg #[.slice A0 xs.length c0, .slice A1 n1 c1], .bool true] V fun e w' => e = .returned (.slice A0 xs.length c0) ∧ Below V.heap.size V w' := fun V => net_row_calls A0 xs.length c0 A1 n1 c1 true V
  have HT3 := Lib.hid (TBox.start w (.slice A0 xs.length c0) (.slice A1 n1 c1) (.int .i64 i)).draw
  have HR := Lib.hid hr; have HMEM := Lib.hid hmc; have HROW := Lib.hid hrow; have HMB := Lib.hid hmd
  clear hr hmc hrow hmem hmb hmd
  go_enter Try.func11, Try.ntmps11
  go_wp2_with fail
  refine start_ (n := 10) (S := fun w' => w'.cell? ⟨w.heap.size, 0, none⟩ = some (.slice A0 xs.length c0) ∧ w'.cell? ⟨w.heap.size, 1, none⟩ = some (.slice A1 n1 c1) ∧ w'.cell? ⟨w.heap.size + 1, 0, none⟩ = some (.int .i64 (i : Int))) (ds := []) #[false, false, false, false, false, false, false, false, false, false] (by kernel_rfl) rfl rfl ⟨HT3.out.n.cells.1, HT3.out.n.cells.2.1, HT3.out.icell⟩ (fun hHeld => ?_)
  refine pure_ (i := 1) (N := some 19) (v := ?_) (a' := ?_) #[false, true, false, false, false, false, false, false, false, false] rfl rfl (by kernel_rfl) (fun _ _ _ h => h) (Or.inl ⟨by rfl, ?_⟩) ?_ ?_
  rotate_left
  · intro w'
    go_simp
    with_reducible rfl
  rotate_left
  · simp only [Act.put, List.setIfInBounds_toArray, List.set_cons_zero, List.set_cons_succ, i64_w, i32_w]
    rfl
  refine take_ (i := 0) (N := some 18) (v := ?_) (a' := ?_) #[true, true, false, false, false, false, false, false, false, false] rfl rfl (by kernel_rfl) (fun _ _ _ h => h) (Or.inl ⟨by rfl, ?_⟩) hHeld ?_ ?_
  rotate_left
  · rintro w' ⟨s0, s1, s2⟩
    go_simp
    with_reducible rfl
  rotate_left
  · simp only [Act.put, List.setIfInBounds_toArray, List.set_cons_zero, List.set_cons_succ, i64_w, i32_w]
    rfl
  refine take_ (i := 3) (N := some 21) (v := ?_) (a' := ?_) #[true, true, false, true, false, false, false, false, false, false] rfl rfl (by kernel_rfl) (fun _ _ _ h => h) (Or.inl ⟨by rfl, ?_⟩) hHeld ?_ ?_
  rotate_left
  · rintro w' ⟨s0, s1, s2⟩
    go_simp
    with_reducible rfl
  rotate_left
  · simp only [Act.put, List.setIfInBounds_toArray, List.set_cons_zero, List.set_cons_succ, i64_w, i32_w]
    rfl
  refine one_ (i := 2) (N := some 20) #[true, true, true, true, false, false, false, false, false, false] rfl rfl (by kernel_rfl) (by decide) (fun K hK => ?_)
  refine goes_ Try.func18 (by kernel_rfl) rfl #[.agg #[.slice A0 xs.length c0, .slice A1 n1 c1], .bool true] (by rfl) rfl rfl (by simp only [List.map_toArray, List.map_cons, List.map_nil]; rfl) ?_
  with_reducible refine (HROW.out _).mono ?_
  rintro e w4 ⟨rfl, hb⟩
  refine ⟨_, rfl, ?_⟩
  have HT4 := Lib.hid (HT3.out.step hb)
  clear hb
  refine hK.out _ _ ⟨HT4.out.n.cells.1, HT4.out.n.cells.2.1, HT4.out.icell⟩ (fun hHeld => ?_)
  clear hK K
  refine norm_ (a' := ?_) ?_ ?_
  rotate_left
  · show Act.put _ (some 20) _ = _
    simp only [Act.put, List.setIfInBounds_toArray, List.set_cons_zero, List.set_cons_succ, i64_w, i32_w]
    rfl
  refine one_ (i := 4) (N := some 22) #[true, true, true, true, true, false, false, false, false, false] rfl rfl (by kernel_rfl) (by decide) (fun K hK => ?_)
  refine goes_ Try.func17 (by kernel_rfl) rfl #[.slice A0 xs.length c0, .int .i64 (i : Int)] (by rfl) rfl rfl (by simp only [List.map_toArray, List.map_cons, List.map_nil]; rfl) ?_
  with_reducible refine ((HMEM.out _ HT4.out.below)).mono ?_
  rintro e w5 ⟨rfl, hd⟩
  refine ⟨_, rfl, ?_⟩
  have HT5 := Lib.hid (HT4.out.drawn hd)
  clear hd
  refine hK.out _ _ ⟨HT5.out.n.cells.1, HT5.out.n.cells.2.1, HT5.out.icell⟩ (fun hHeld => ?_)
  clear hK K
  refine norm_ (a' := ?_) ?_ ?_
  rotate_left
  · show Act.put _ (some 22) _ = _
    simp only [Act.put, List.setIfInBounds_toArray, List.set_cons_zero, List.set_cons_succ, i64_w, i32_w]
    rfl
  refine pure_ (i := 5) (N := some 17) (v := ?_) (a' := ?_) #[true, true, true, true, true, true, false, false, false, false] rfl rfl (by kernel_rfl) (fun _ _ _ h => h) (Or.inl ⟨by rfl, ?_⟩) ?_ ?_
  rotate_left
  · intro w'
    go_simp
    with_reducible rfl
  rotate_left
  · simp only [Act.put, List.setIfInBounds_toArray, List.set_cons_zero, List.set_cons_succ, i64_w, i32_w]
    rfl
  refine pure_ (i := 6) (N := some 23) (v := ?_) (a' := ?_) #[true, true, true, true, true, true, true, false, false, false] rfl rfl (by kernel_rfl) (fun _ _ _ h => h) (Or.inl ⟨by rfl, ?_⟩) ?_ ?_
  rotate_left
  · intro w'
    go_simp
    with_reducible rfl
  rotate_left
  · simp only [Act.put, List.setIfInBounds_toArray, List.set_cons_zero, List.set_cons_succ, i64_w, i32_w]
    rfl
  refine pure_ (i := 7) (N := some 24) (v := ?_) (a' := ?_) #[true, true, true, true, true, true, true, true, false, false] rfl rfl (by kernel_rfl) (fun _ _ _ h => h) (Or.inl ⟨by rfl, ?_⟩) ?_ ?_
  rotate_left
  · intro w'
    go_simp
    with_reducible rfl
  rotate_left
  · simp only [Act.put, List.setIfInBounds_toArray, List.set_cons_zero, List.set_cons_succ, i64_w, i32_w]
    rfl
  refine pure_ (i := 8) (N := some 12) (v := ?_) (a' := ?_) #[true, true, true, true, true, true, true, true, true, false] rfl rfl (by kernel_rfl) (fun _ _ _ h => h) (Or.inl ⟨by rfl, ?_⟩) ?_ ?_
  rotate_left
  · intro w'
    go_simp
    with_reducible rfl
  rotate_left
  · simp only [Act.put, List.setIfInBounds_toArray, List.set_cons_zero, List.set_cons_succ, i64_w, i32_w]
    rfl
  refine pure_ (i := 9) (N := some 13) (v := ?_) (a' := ?_) #[true, true, true, true, true, true, true, true, true, true] rfl rfl (by kernel_rfl) (fun _ _ _ h => h) (Or.inl ⟨by rfl, ?_⟩) ?_ ?_
  rotate_left
  · intro w'
    go_simp
    with_reducible rfl
  rotate_left
  · simp only [Act.put, List.setIfInBounds_toArray, List.set_cons_zero, List.set_cons_succ, i64_w, i32_w]
    rfl
  refine done_ (by kernel_rfl) ?_
  have kb5 := print_bytes (P := Try.prog) 9 50 5 Try.underlying9 Try.underlying50 Try.underlying5 s w5
  obtain ⟨cap, hcapd⟩ : ∃ cap, cap = grownCap w5 s.size 0 5 := ⟨_, rfl⟩
  have hge : s.size ≤ cap := by rw [hcapd]; exact grownCap_ge _ _ _ _
  rw [← hcapd] at kb5
  obtain ⟨b8, hb8e⟩ : ∃ b8, b8 = (Lib.bytesWorld w5 5 s).heap.size := ⟨_, rfl⟩
  obtain ⟨W8, hW8⟩ : ∃ W8, W8 = (Lib.bytesWorld w5 5 s).alloc (.cells #[.slice (some ⟨w5.heap.size, 0, none⟩) s.size cap] 50) := ⟨_, rfl⟩
  have hb6 := bytes_below (Below.refl w5.heap.size w5) (Nat.le_refl _) 5 s
  have z6 := Lib.bytesWorld_size w5 5 s
  have hb68 : Below (Lib.bytesWorld w5 5 s).heap.size (Lib.bytesWorld w5 5 s) W8 := by rw [hW8]; exact (Below.refl _ _).alloc (Nat.le_refl _) _
  have hb8 : Below w5.heap.size w5 W8 := hb6.trans (hb68.mono (by omega))
  have hbox8 : W8.heap[b8]? = some (.cells #[.slice (some ⟨w5.heap.size, 0, none⟩) s.size cap] 50 (0, 0)) := by rw [hW8, hb8e]; exact heap_alloc_new _ _
  have hrd8 := (bytes_reads w5 5 s hs).below hb68
  have HT8 := Lib.hid (HT5.out.step hb8)
  have HMB8 := Lib.hid (HMB.out W8 (some ⟨w5.heap.size, 0, none⟩) cap hrd8 hge)
  have hcb : W8.cell? ⟨b8, 0, none⟩ = some (.slice (some ⟨w5.heap.size, 0, none⟩) s.size cap) := by rw [blk_cell hbox8]; rfl
  rw [hb8e, hW8] at hcb
  rw [hW8] at HMB8
  have HBOX8 := Lib.hid hbox8; have HRD8 := Lib.hid hrd8; have HW8 := Lib.hid hW8; have HB8E := Lib.hid hb8e; have HZ6 := Lib.hid z6; have H5 := Lib.hid HT5.out.sz
  clear hb6 hb68 hb8 hbox8 hrd8 hW8 hge hcapd hb8e z6
  go_wp2_with fail
  refine HMB8.out.mono ?_
  rw [← HW8.out, ← HB8E.out]
  rintro e w9 ⟨rfl, hd9⟩
  have HT9 := Lib.hid (HT8.out.drawn hd9)
  obtain ⟨q9, rfl⟩ := hd9
  obtain ⟨q0, q1, _, _⟩ := HT9.out.n.cells
  obtain ⟨x0, x1, x2, x3⟩ := HT9.out.r.cells
  generalize W8.drewN q9 = w9 at *
  go_wp2_with fail
  try (go_region; all_goals try go_wp2_with fail)
  all_goals
    refine bodyPost_ret (v := .tuple #[.agg #[.slice A0 xs.length c0, .slice A1 n1 c1], .bool false]) (by simp [results, Try.results11, go_sem, x0, x1]) rfl ⟨rfl, ?_⟩
    repeat (first | exact HT9.out.below | refine below_drew ?_ | refine Below.setCell (p := ⟨w.heap.size + 1 + 1, 0, none⟩) ?_ (show w.heap.size ≤ w.heap.size + 1 + 1 by omega) _ | refine Below.setCell (p := ⟨w.heap.size + 1 + 1, 1, none⟩) ?_ (show w.heap.size ≤ w.heap.size + 1 + 1 by omega) _)
set_option maxRecDepth 100000 in
set_option maxHeartbeats 4000000 in
theorem spoil_outa_down (A0 : Option Addr) (n0 c0 : Nat) (A1 : Option Addr) (c1 : Nat) (i a : Int) (kb : Bool) (yv ub : Int) (s : ByteArray) (hs : s.size ≤ 9223372036854775807) (xs : List ByteArray) (w : World) (hr : Kd.C Kd.string w A1 xs.length xs) (hcap : xs.length ≤ c1) 
    (hmem : T.net_member_string.f xs i = some (s, false)) (hmb : T.net_member_byte.f (bytesOf s) a = some (ub, kb)) :
    Calls Try.prog 11 #[.agg #[.slice A0 n0 c0, .slice A1 xs.length c1], .bool false, .int .i64 i, .int .i64 a, .int .u8 yv] w fun e w' => e = .returned (.tuple #[.agg #[.slice A0 n0 c0, .slice A1 xs.length c1], .bool false]) ∧ Below w.heap.size w w' := by
  have hmc : ∀ V, Below w.heap.size w V → Calls Try.prog 17 #[.slice A1 xs.length c1, .int .i64 (i : Int)] V fun e w' => e = .returned (.tuple #[.string s, .bool false]) ∧ Drawn0 V w' := fun V hV =>
    T.net_member_string.calls A1 c1 xs i s false V (Kd.C_below hr hV) hcap hmem
  have hmd : ∀ V A c, ReadsInt V .u8 A s.size (bytesOf s) → s.size ≤ c → Calls Try.prog 22 #[.slice A s.size c, .int .i64 a] V fun e w' => e = .returned (.tuple #[.int .u8 ub, .bool kb]) ∧ Drawn0 V w' := fun V A c hV hc => by
    have hl : s.size = (bytesOf s).length := (bytesOf_length s).symm
    rw [hl] at hV hc ⊢
    exact T.net_member_byte.calls A c (bytesOf s) a ub kb V (Kd.C_of_reads hV) hc hmb
  have hrow : ∀ V, Calls Try.prog 18 #[.agg #[.slice A0 n0 c0, .slice A1 xs.length c1], .bool false] V fun e w' => e = .returned (.slice A1 xs.length c1) ∧ Below V.heap.size V w' := fun V => net_row_calls A0 n0 c0 A1 xs.length c1 false V
  have HT3 := Lib.hid (TBox.start w (.slice A0 n0 c0) (.slice A1 xs.length c1) (.int .i64 i)).draw
  have HR := Lib.hid hr; have HMEM := Lib.hid hmc; have HROW := Lib.hid hrow; have HMB := Lib.hid hmd
  clear hr hmc hrow hmem hmb hmd
  go_enter Try.func11, Try.ntmps11
  go_wp2_with fail
  refine start_ (n := 10) (S := fun w' => w'.cell? ⟨w.heap.size, 0, none⟩ = some (.slice A0 n0 c0) ∧ w'.cell? ⟨w.heap.size, 1, none⟩ = some (.slice A1 xs.length c1) ∧ w'.cell? ⟨w.heap.size + 1, 0, none⟩ = some (.int .i64 (i : Int))) (ds := []) #[false, false, false, false, false, false, false, false, false, false] (by kernel_rfl) rfl rfl ⟨HT3.out.n.cells.1, HT3.out.n.cells.2.1, HT3.out.icell⟩ (fun hHeld => ?_)
  refine pure_ (i := 1) (N := some 19) (v := ?_) (a' := ?_) #[false, true, false, false, false, false, false, false, false, false] rfl rfl (by kernel_rfl) (fun _ _ _ h => h) (Or.inl ⟨by rfl, ?_⟩) ?_ ?_
  rotate_left
  · intro w'
    go_simp
    with_reducible rfl
  rotate_left
  · simp only [Act.put, List.setIfInBounds_toArray, List.set_cons_zero, List.set_cons_succ, i64_w, i32_w]
    rfl
  refine take_ (i := 0) (N := some 18) (v := ?_) (a' := ?_) #[true, true, false, false, false, false, false, false, false, false] rfl rfl (by kernel_rfl) (fun _ _ _ h => h) (Or.inl ⟨by rfl, ?_⟩) hHeld ?_ ?_
  rotate_left
  · rintro w' ⟨s0, s1, s2⟩
    go_simp
    with_reducible rfl
  rotate_left
  · simp only [Act.put, List.setIfInBounds_toArray, List.set_cons_zero, List.set_cons_succ, i64_w, i32_w]
    rfl
  refine take_ (i := 3) (N := some 21) (v := ?_) (a' := ?_) #[true, true, false, true, false, false, false, false, false, false] rfl rfl (by kernel_rfl) (fun _ _ _ h => h) (Or.inl ⟨by rfl, ?_⟩) hHeld ?_ ?_
  rotate_left
  · rintro w' ⟨s0, s1, s2⟩
    go_simp
    with_reducible rfl
  rotate_left
  · simp only [Act.put, List.setIfInBounds_toArray, List.set_cons_zero, List.set_cons_succ, i64_w, i32_w]
    rfl
  refine one_ (i := 2) (N := some 20) #[true, true, true, true, false, false, false, false, false, false] rfl rfl (by kernel_rfl) (by decide) (fun K hK => ?_)
  refine goes_ Try.func18 (by kernel_rfl) rfl #[.agg #[.slice A0 n0 c0, .slice A1 xs.length c1], .bool false] (by rfl) rfl rfl (by simp only [List.map_toArray, List.map_cons, List.map_nil]; rfl) ?_
  with_reducible refine (HROW.out _).mono ?_
  rintro e w4 ⟨rfl, hb⟩
  refine ⟨_, rfl, ?_⟩
  have HT4 := Lib.hid (HT3.out.step hb)
  clear hb
  refine hK.out _ _ ⟨HT4.out.n.cells.1, HT4.out.n.cells.2.1, HT4.out.icell⟩ (fun hHeld => ?_)
  clear hK K
  refine norm_ (a' := ?_) ?_ ?_
  rotate_left
  · show Act.put _ (some 20) _ = _
    simp only [Act.put, List.setIfInBounds_toArray, List.set_cons_zero, List.set_cons_succ, i64_w, i32_w]
    rfl
  refine one_ (i := 4) (N := some 22) #[true, true, true, true, true, false, false, false, false, false] rfl rfl (by kernel_rfl) (by decide) (fun K hK => ?_)
  refine goes_ Try.func17 (by kernel_rfl) rfl #[.slice A1 xs.length c1, .int .i64 (i : Int)] (by rfl) rfl rfl (by simp only [List.map_toArray, List.map_cons, List.map_nil]; rfl) ?_
  with_reducible refine ((HMEM.out _ HT4.out.below)).mono ?_
  rintro e w5 ⟨rfl, hd⟩
  refine ⟨_, rfl, ?_⟩
  have HT5 := Lib.hid (HT4.out.drawn hd)
  clear hd
  refine hK.out _ _ ⟨HT5.out.n.cells.1, HT5.out.n.cells.2.1, HT5.out.icell⟩ (fun hHeld => ?_)
  clear hK K
  refine norm_ (a' := ?_) ?_ ?_
  rotate_left
  · show Act.put _ (some 22) _ = _
    simp only [Act.put, List.setIfInBounds_toArray, List.set_cons_zero, List.set_cons_succ, i64_w, i32_w]
    rfl
  refine pure_ (i := 5) (N := some 17) (v := ?_) (a' := ?_) #[true, true, true, true, true, true, false, false, false, false] rfl rfl (by kernel_rfl) (fun _ _ _ h => h) (Or.inl ⟨by rfl, ?_⟩) ?_ ?_
  rotate_left
  · intro w'
    go_simp
    with_reducible rfl
  rotate_left
  · simp only [Act.put, List.setIfInBounds_toArray, List.set_cons_zero, List.set_cons_succ, i64_w, i32_w]
    rfl
  refine pure_ (i := 6) (N := some 23) (v := ?_) (a' := ?_) #[true, true, true, true, true, true, true, false, false, false] rfl rfl (by kernel_rfl) (fun _ _ _ h => h) (Or.inl ⟨by rfl, ?_⟩) ?_ ?_
  rotate_left
  · intro w'
    go_simp
    with_reducible rfl
  rotate_left
  · simp only [Act.put, List.setIfInBounds_toArray, List.set_cons_zero, List.set_cons_succ, i64_w, i32_w]
    rfl
  refine pure_ (i := 7) (N := some 24) (v := ?_) (a' := ?_) #[true, true, true, true, true, true, true, true, false, false] rfl rfl (by kernel_rfl) (fun _ _ _ h => h) (Or.inl ⟨by rfl, ?_⟩) ?_ ?_
  rotate_left
  · intro w'
    go_simp
    with_reducible rfl
  rotate_left
  · simp only [Act.put, List.setIfInBounds_toArray, List.set_cons_zero, List.set_cons_succ, i64_w, i32_w]
    rfl
  refine pure_ (i := 8) (N := some 12) (v := ?_) (a' := ?_) #[true, true, true, true, true, true, true, true, true, false] rfl rfl (by kernel_rfl) (fun _ _ _ h => h) (Or.inl ⟨by rfl, ?_⟩) ?_ ?_
  rotate_left
  · intro w'
    go_simp
    with_reducible rfl
  rotate_left
  · simp only [Act.put, List.setIfInBounds_toArray, List.set_cons_zero, List.set_cons_succ, i64_w, i32_w]
    rfl
  refine pure_ (i := 9) (N := some 13) (v := ?_) (a' := ?_) #[true, true, true, true, true, true, true, true, true, true] rfl rfl (by kernel_rfl) (fun _ _ _ h => h) (Or.inl ⟨by rfl, ?_⟩) ?_ ?_
  rotate_left
  · intro w'
    go_simp
    with_reducible rfl
  rotate_left
  · simp only [Act.put, List.setIfInBounds_toArray, List.set_cons_zero, List.set_cons_succ, i64_w, i32_w]
    rfl
  refine done_ (by kernel_rfl) ?_
  have kb5 := print_bytes (P := Try.prog) 9 50 5 Try.underlying9 Try.underlying50 Try.underlying5 s w5
  obtain ⟨cap, hcapd⟩ : ∃ cap, cap = grownCap w5 s.size 0 5 := ⟨_, rfl⟩
  have hge : s.size ≤ cap := by rw [hcapd]; exact grownCap_ge _ _ _ _
  rw [← hcapd] at kb5
  obtain ⟨b8, hb8e⟩ : ∃ b8, b8 = (Lib.bytesWorld w5 5 s).heap.size := ⟨_, rfl⟩
  obtain ⟨W8, hW8⟩ : ∃ W8, W8 = (Lib.bytesWorld w5 5 s).alloc (.cells #[.slice (some ⟨w5.heap.size, 0, none⟩) s.size cap] 50) := ⟨_, rfl⟩
  have hb6 := bytes_below (Below.refl w5.heap.size w5) (Nat.le_refl _) 5 s
  have z6 := Lib.bytesWorld_size w5 5 s
  have hb68 : Below (Lib.bytesWorld w5 5 s).heap.size (Lib.bytesWorld w5 5 s) W8 := by rw [hW8]; exact (Below.refl _ _).alloc (Nat.le_refl _) _
  have hb8 : Below w5.heap.size w5 W8 := hb6.trans (hb68.mono (by omega))
  have hbox8 : W8.heap[b8]? = some (.cells #[.slice (some ⟨w5.heap.size, 0, none⟩) s.size cap] 50 (0, 0)) := by rw [hW8, hb8e]; exact heap_alloc_new _ _
  have hrd8 := (bytes_reads w5 5 s hs).below hb68
  have HT8 := Lib.hid (HT5.out.step hb8)
  have HMB8 := Lib.hid (HMB.out W8 (some ⟨w5.heap.size, 0, none⟩) cap hrd8 hge)
  have hcb : W8.cell? ⟨b8, 0, none⟩ = some (.slice (some ⟨w5.heap.size, 0, none⟩) s.size cap) := by rw [blk_cell hbox8]; rfl
  rw [hb8e, hW8] at hcb
  rw [hW8] at HMB8
  have HBOX8 := Lib.hid hbox8; have HRD8 := Lib.hid hrd8; have HW8 := Lib.hid hW8; have HB8E := Lib.hid hb8e; have HZ6 := Lib.hid z6; have H5 := Lib.hid HT5.out.sz
  clear hb6 hb68 hb8 hbox8 hrd8 hW8 hge hcapd hb8e z6
  go_wp2_with fail
  refine HMB8.out.mono ?_
  rw [← HW8.out, ← HB8E.out]
  rintro e w9 ⟨rfl, hd9⟩
  have HT9 := Lib.hid (HT8.out.drawn hd9)
  obtain ⟨q9, rfl⟩ := hd9
  obtain ⟨q0, q1, _, _⟩ := HT9.out.n.cells
  obtain ⟨x0, x1, x2, x3⟩ := HT9.out.r.cells
  generalize W8.drewN q9 = w9 at *
  go_wp2_with fail
  try (go_region; all_goals try go_wp2_with fail)
  all_goals
    refine bodyPost_ret (v := .tuple #[.agg #[.slice A0 n0 c0, .slice A1 xs.length c1], .bool false]) (by simp [results, Try.results11, go_sem, x0, x1]) rfl ⟨rfl, ?_⟩
    repeat (first | exact HT9.out.below | refine below_drew ?_ | refine Below.setCell (p := ⟨w.heap.size + 1 + 1, 0, none⟩) ?_ (show w.heap.size ≤ w.heap.size + 1 + 1 by omega) _ | refine Below.setCell (p := ⟨w.heap.size + 1 + 1, 1, none⟩) ?_ (show w.heap.size ≤ w.heap.size + 1 + 1 by omega) _)
set_option maxRecDepth 100000 in
set_option maxHeartbeats 4000000 in
theorem spoil_outb_up (A0 : Option Addr) (c0 : Nat) (A1 : Option Addr) (n1 c1 : Nat) (i a yv ub : Int) (s : ByteArray) (hs : s.size ≤ 9223372036854775807) (xs : List ByteArray) (w : World) (hr : Kd.C Kd.string w A0 xs.length xs) (hcap : xs.length ≤ c0) 
    (hmem : T.net_member_string.f xs i = some (s, true)) (hmb : T.net_member_byte.f (bytesOf s) a = some (ub, false)) :
    Calls Try.prog 11 #[.agg #[.slice A0 xs.length c0, .slice A1 n1 c1], .bool true, .int .i64 i, .int .i64 a, .int .u8 yv] w fun e w' => e = .returned (.tuple #[.agg #[.slice A0 xs.length c0, .slice A1 n1 c1], .bool false]) ∧ Below w.heap.size w w' := by
  have hmc : ∀ V, Below w.heap.size w V → Calls Try.prog 17 #[.slice A0 xs.length c0, .int .i64 (i : Int)] V fun e w' => e = .returned (.tuple #[.string s, .bool true]) ∧ Drawn0 V w' := fun V hV =>
    T.net_member_string.calls A0 c0 xs i s true V (Kd.C_below hr hV) hcap hmem
  have hmd : ∀ V A c, ReadsInt V .u8 A s.size (bytesOf s) → s.size ≤ c → Calls Try.prog 22 #[.slice A s.size c, .int .i64 a] V fun e w' => e = .returned (.tuple #[.int .u8 ub, .bool false]) ∧ Drawn0 V w' := fun V A c hV hc => by
    have hl : s.size = (bytesOf s).length := (bytesOf_length s).symm
    rw [hl] at hV hc ⊢
    exact T.net_member_byte.calls A c (bytesOf s) a ub false V (Kd.C_of_reads hV) hc hmb
  have hrow : ∀ V, Calls Try.prog 18 #[.agg #[.slice A0 xs.length c0, .slice A1 n1 c1], .bool true] V fun e w' => e = .returned (.slice A0 xs.length c0) ∧ Below V.heap.size V w' := fun V => net_row_calls A0 xs.length c0 A1 n1 c1 true V
  have HT3 := Lib.hid (TBox.start w (.slice A0 xs.length c0) (.slice A1 n1 c1) (.int .i64 i)).draw
  have HR := Lib.hid hr; have HMEM := Lib.hid hmc; have HROW := Lib.hid hrow; have HMB := Lib.hid hmd
  clear hr hmc hrow hmem hmb hmd
  go_enter Try.func11, Try.ntmps11
  go_wp2_with fail
  refine start_ (n := 10) (S := fun w' => w'.cell? ⟨w.heap.size, 0, none⟩ = some (.slice A0 xs.length c0) ∧ w'.cell? ⟨w.heap.size, 1, none⟩ = some (.slice A1 n1 c1) ∧ w'.cell? ⟨w.heap.size + 1, 0, none⟩ = some (.int .i64 (i : Int))) (ds := []) #[false, false, false, false, false, false, false, false, false, false] (by kernel_rfl) rfl rfl ⟨HT3.out.n.cells.1, HT3.out.n.cells.2.1, HT3.out.icell⟩ (fun hHeld => ?_)
  refine pure_ (i := 1) (N := some 19) (v := ?_) (a' := ?_) #[false, true, false, false, false, false, false, false, false, false] rfl rfl (by kernel_rfl) (fun _ _ _ h => h) (Or.inl ⟨by rfl, ?_⟩) ?_ ?_
  rotate_left
  · intro w'
    go_simp
    with_reducible rfl
  rotate_left
  · simp only [Act.put, List.setIfInBounds_toArray, List.set_cons_zero, List.set_cons_succ, i64_w, i32_w]
    rfl
  refine take_ (i := 0) (N := some 18) (v := ?_) (a' := ?_) #[true, true, false, false, false, false, false, false, false, false] rfl rfl (by kernel_rfl) (fun _ _ _ h => h) (Or.inl ⟨by rfl, ?_⟩) hHeld ?_ ?_
  rotate_left
  · rintro w' ⟨s0, s1, s2⟩
    go_simp
    with_reducible rfl
  rotate_left
  · simp only [Act.put, List.setIfInBounds_toArray, List.set_cons_zero, List.set_cons_succ, i64_w, i32_w]
    rfl
  refine take_ (i := 3) (N := some 21) (v := ?_) (a' := ?_) #[true, true, false, true, false, false, false, false, false, false] rfl rfl (by kernel_rfl) (fun _ _ _ h => h) (Or.inl ⟨by rfl, ?_⟩) hHeld ?_ ?_
  rotate_left
  · rintro w' ⟨s0, s1, s2⟩
    go_simp
    with_reducible rfl
  rotate_left
  · simp only [Act.put, List.setIfInBounds_toArray, List.set_cons_zero, List.set_cons_succ, i64_w, i32_w]
    rfl
  refine one_ (i := 2) (N := some 20) #[true, true, true, true, false, false, false, false, false, false] rfl rfl (by kernel_rfl) (by decide) (fun K hK => ?_)
  refine goes_ Try.func18 (by kernel_rfl) rfl #[.agg #[.slice A0 xs.length c0, .slice A1 n1 c1], .bool true] (by rfl) rfl rfl (by simp only [List.map_toArray, List.map_cons, List.map_nil]; rfl) ?_
  with_reducible refine (HROW.out _).mono ?_
  rintro e w4 ⟨rfl, hb⟩
  refine ⟨_, rfl, ?_⟩
  have HT4 := Lib.hid (HT3.out.step hb)
  clear hb
  refine hK.out _ _ ⟨HT4.out.n.cells.1, HT4.out.n.cells.2.1, HT4.out.icell⟩ (fun hHeld => ?_)
  clear hK K
  refine norm_ (a' := ?_) ?_ ?_
  rotate_left
  · show Act.put _ (some 20) _ = _
    simp only [Act.put, List.setIfInBounds_toArray, List.set_cons_zero, List.set_cons_succ, i64_w, i32_w]
    rfl
  refine one_ (i := 4) (N := some 22) #[true, true, true, true, true, false, false, false, false, false] rfl rfl (by kernel_rfl) (by decide) (fun K hK => ?_)
  refine goes_ Try.func17 (by kernel_rfl) rfl #[.slice A0 xs.length c0, .int .i64 (i : Int)] (by rfl) rfl rfl (by simp only [List.map_toArray, List.map_cons, List.map_nil]; rfl) ?_
  with_reducible refine ((HMEM.out _ HT4.out.below)).mono ?_
  rintro e w5 ⟨rfl, hd⟩
  refine ⟨_, rfl, ?_⟩
  have HT5 := Lib.hid (HT4.out.drawn hd)
  clear hd
  refine hK.out _ _ ⟨HT5.out.n.cells.1, HT5.out.n.cells.2.1, HT5.out.icell⟩ (fun hHeld => ?_)
  clear hK K
  refine norm_ (a' := ?_) ?_ ?_
  rotate_left
  · show Act.put _ (some 22) _ = _
    simp only [Act.put, List.setIfInBounds_toArray, List.set_cons_zero, List.set_cons_succ, i64_w, i32_w]
    rfl
  refine pure_ (i := 5) (N := some 17) (v := ?_) (a' := ?_) #[true, true, true, true, true, true, false, false, false, false] rfl rfl (by kernel_rfl) (fun _ _ _ h => h) (Or.inl ⟨by rfl, ?_⟩) ?_ ?_
  rotate_left
  · intro w'
    go_simp
    with_reducible rfl
  rotate_left
  · simp only [Act.put, List.setIfInBounds_toArray, List.set_cons_zero, List.set_cons_succ, i64_w, i32_w]
    rfl
  refine pure_ (i := 6) (N := some 23) (v := ?_) (a' := ?_) #[true, true, true, true, true, true, true, false, false, false] rfl rfl (by kernel_rfl) (fun _ _ _ h => h) (Or.inl ⟨by rfl, ?_⟩) ?_ ?_
  rotate_left
  · intro w'
    go_simp
    with_reducible rfl
  rotate_left
  · simp only [Act.put, List.setIfInBounds_toArray, List.set_cons_zero, List.set_cons_succ, i64_w, i32_w]
    rfl
  refine pure_ (i := 7) (N := some 24) (v := ?_) (a' := ?_) #[true, true, true, true, true, true, true, true, false, false] rfl rfl (by kernel_rfl) (fun _ _ _ h => h) (Or.inl ⟨by rfl, ?_⟩) ?_ ?_
  rotate_left
  · intro w'
    go_simp
    with_reducible rfl
  rotate_left
  · simp only [Act.put, List.setIfInBounds_toArray, List.set_cons_zero, List.set_cons_succ, i64_w, i32_w]
    rfl
  refine pure_ (i := 8) (N := some 12) (v := ?_) (a' := ?_) #[true, true, true, true, true, true, true, true, true, false] rfl rfl (by kernel_rfl) (fun _ _ _ h => h) (Or.inl ⟨by rfl, ?_⟩) ?_ ?_
  rotate_left
  · intro w'
    go_simp
    with_reducible rfl
  rotate_left
  · simp only [Act.put, List.setIfInBounds_toArray, List.set_cons_zero, List.set_cons_succ, i64_w, i32_w]
    rfl
  refine pure_ (i := 9) (N := some 13) (v := ?_) (a' := ?_) #[true, true, true, true, true, true, true, true, true, true] rfl rfl (by kernel_rfl) (fun _ _ _ h => h) (Or.inl ⟨by rfl, ?_⟩) ?_ ?_
  rotate_left
  · intro w'
    go_simp
    with_reducible rfl
  rotate_left
  · simp only [Act.put, List.setIfInBounds_toArray, List.set_cons_zero, List.set_cons_succ, i64_w, i32_w]
    rfl
  refine done_ (by kernel_rfl) ?_
  have kb5 := print_bytes (P := Try.prog) 9 50 5 Try.underlying9 Try.underlying50 Try.underlying5 s w5
  obtain ⟨cap, hcapd⟩ : ∃ cap, cap = grownCap w5 s.size 0 5 := ⟨_, rfl⟩
  have hge : s.size ≤ cap := by rw [hcapd]; exact grownCap_ge _ _ _ _
  rw [← hcapd] at kb5
  obtain ⟨b8, hb8e⟩ : ∃ b8, b8 = (Lib.bytesWorld w5 5 s).heap.size := ⟨_, rfl⟩
  obtain ⟨W8, hW8⟩ : ∃ W8, W8 = (Lib.bytesWorld w5 5 s).alloc (.cells #[.slice (some ⟨w5.heap.size, 0, none⟩) s.size cap] 50) := ⟨_, rfl⟩
  have hb6 := bytes_below (Below.refl w5.heap.size w5) (Nat.le_refl _) 5 s
  have z6 := Lib.bytesWorld_size w5 5 s
  have hb68 : Below (Lib.bytesWorld w5 5 s).heap.size (Lib.bytesWorld w5 5 s) W8 := by rw [hW8]; exact (Below.refl _ _).alloc (Nat.le_refl _) _
  have hb8 : Below w5.heap.size w5 W8 := hb6.trans (hb68.mono (by omega))
  have hbox8 : W8.heap[b8]? = some (.cells #[.slice (some ⟨w5.heap.size, 0, none⟩) s.size cap] 50 (0, 0)) := by rw [hW8, hb8e]; exact heap_alloc_new _ _
  have hrd8 := (bytes_reads w5 5 s hs).below hb68
  have HT8 := Lib.hid (HT5.out.step hb8)
  have HMB8 := Lib.hid (HMB.out W8 (some ⟨w5.heap.size, 0, none⟩) cap hrd8 hge)
  have hcb : W8.cell? ⟨b8, 0, none⟩ = some (.slice (some ⟨w5.heap.size, 0, none⟩) s.size cap) := by rw [blk_cell hbox8]; rfl
  rw [hb8e, hW8] at hcb
  rw [hW8] at HMB8
  have HBOX8 := Lib.hid hbox8; have HRD8 := Lib.hid hrd8; have HW8 := Lib.hid hW8; have HB8E := Lib.hid hb8e; have HZ6 := Lib.hid z6; have H5 := Lib.hid HT5.out.sz
  clear hb6 hb68 hb8 hbox8 hrd8 hW8 hge hcapd hb8e z6
  go_wp2_with fail
  refine HMB8.out.mono ?_
  rw [← HW8.out, ← HB8E.out]
  rintro e w9 ⟨rfl, hd9⟩
  have HT9 := Lib.hid (HT8.out.drawn hd9)
  obtain ⟨q9, rfl⟩ := hd9
  obtain ⟨q0, q1, _, _⟩ := HT9.out.n.cells
  obtain ⟨x0, x1, x2, x3⟩ := HT9.out.r.cells
  generalize W8.drewN q9 = w9 at *
  go_wp2_with fail
  try (go_region; all_goals try go_wp2_with fail)
  all_goals
    refine bodyPost_ret (v := .tuple #[.agg #[.slice A0 xs.length c0, .slice A1 n1 c1], .bool false]) (by simp [results, Try.results11, go_sem, x0, x1]) rfl ⟨rfl, ?_⟩
    repeat (first | exact HT9.out.below | refine below_drew ?_ | refine Below.setCell (p := ⟨w.heap.size + 1 + 1, 0, none⟩) ?_ (show w.heap.size ≤ w.heap.size + 1 + 1 by omega) _ | refine Below.setCell (p := ⟨w.heap.size + 1 + 1, 1, none⟩) ?_ (show w.heap.size ≤ w.heap.size + 1 + 1 by omega) _)
set_option maxRecDepth 100000 in
set_option maxHeartbeats 4000000 in
theorem spoil_outb_down (A0 : Option Addr) (n0 c0 : Nat) (A1 : Option Addr) (c1 : Nat) (i a yv ub : Int) (s : ByteArray) (hs : s.size ≤ 9223372036854775807) (xs : List ByteArray) (w : World) (hr : Kd.C Kd.string w A1 xs.length xs) (hcap : xs.length ≤ c1) 
    (hmem : T.net_member_string.f xs i = some (s, true)) (hmb : T.net_member_byte.f (bytesOf s) a = some (ub, false)) :
    Calls Try.prog 11 #[.agg #[.slice A0 n0 c0, .slice A1 xs.length c1], .bool false, .int .i64 i, .int .i64 a, .int .u8 yv] w fun e w' => e = .returned (.tuple #[.agg #[.slice A0 n0 c0, .slice A1 xs.length c1], .bool false]) ∧ Below w.heap.size w w' := by
  have hmc : ∀ V, Below w.heap.size w V → Calls Try.prog 17 #[.slice A1 xs.length c1, .int .i64 (i : Int)] V fun e w' => e = .returned (.tuple #[.string s, .bool true]) ∧ Drawn0 V w' := fun V hV =>
    T.net_member_string.calls A1 c1 xs i s true V (Kd.C_below hr hV) hcap hmem
  have hmd : ∀ V A c, ReadsInt V .u8 A s.size (bytesOf s) → s.size ≤ c → Calls Try.prog 22 #[.slice A s.size c, .int .i64 a] V fun e w' => e = .returned (.tuple #[.int .u8 ub, .bool false]) ∧ Drawn0 V w' := fun V A c hV hc => by
    have hl : s.size = (bytesOf s).length := (bytesOf_length s).symm
    rw [hl] at hV hc ⊢
    exact T.net_member_byte.calls A c (bytesOf s) a ub false V (Kd.C_of_reads hV) hc hmb
  have hrow : ∀ V, Calls Try.prog 18 #[.agg #[.slice A0 n0 c0, .slice A1 xs.length c1], .bool false] V fun e w' => e = .returned (.slice A1 xs.length c1) ∧ Below V.heap.size V w' := fun V => net_row_calls A0 n0 c0 A1 xs.length c1 false V
  have HT3 := Lib.hid (TBox.start w (.slice A0 n0 c0) (.slice A1 xs.length c1) (.int .i64 i)).draw
  have HR := Lib.hid hr; have HMEM := Lib.hid hmc; have HROW := Lib.hid hrow; have HMB := Lib.hid hmd
  clear hr hmc hrow hmem hmb hmd
  go_enter Try.func11, Try.ntmps11
  go_wp2_with fail
  refine start_ (n := 10) (S := fun w' => w'.cell? ⟨w.heap.size, 0, none⟩ = some (.slice A0 n0 c0) ∧ w'.cell? ⟨w.heap.size, 1, none⟩ = some (.slice A1 xs.length c1) ∧ w'.cell? ⟨w.heap.size + 1, 0, none⟩ = some (.int .i64 (i : Int))) (ds := []) #[false, false, false, false, false, false, false, false, false, false] (by kernel_rfl) rfl rfl ⟨HT3.out.n.cells.1, HT3.out.n.cells.2.1, HT3.out.icell⟩ (fun hHeld => ?_)
  refine pure_ (i := 1) (N := some 19) (v := ?_) (a' := ?_) #[false, true, false, false, false, false, false, false, false, false] rfl rfl (by kernel_rfl) (fun _ _ _ h => h) (Or.inl ⟨by rfl, ?_⟩) ?_ ?_
  rotate_left
  · intro w'
    go_simp
    with_reducible rfl
  rotate_left
  · simp only [Act.put, List.setIfInBounds_toArray, List.set_cons_zero, List.set_cons_succ, i64_w, i32_w]
    rfl
  refine take_ (i := 0) (N := some 18) (v := ?_) (a' := ?_) #[true, true, false, false, false, false, false, false, false, false] rfl rfl (by kernel_rfl) (fun _ _ _ h => h) (Or.inl ⟨by rfl, ?_⟩) hHeld ?_ ?_
  rotate_left
  · rintro w' ⟨s0, s1, s2⟩
    go_simp
    with_reducible rfl
  rotate_left
  · simp only [Act.put, List.setIfInBounds_toArray, List.set_cons_zero, List.set_cons_succ, i64_w, i32_w]
    rfl
  refine take_ (i := 3) (N := some 21) (v := ?_) (a' := ?_) #[true, true, false, true, false, false, false, false, false, false] rfl rfl (by kernel_rfl) (fun _ _ _ h => h) (Or.inl ⟨by rfl, ?_⟩) hHeld ?_ ?_
  rotate_left
  · rintro w' ⟨s0, s1, s2⟩
    go_simp
    with_reducible rfl
  rotate_left
  · simp only [Act.put, List.setIfInBounds_toArray, List.set_cons_zero, List.set_cons_succ, i64_w, i32_w]
    rfl
  refine one_ (i := 2) (N := some 20) #[true, true, true, true, false, false, false, false, false, false] rfl rfl (by kernel_rfl) (by decide) (fun K hK => ?_)
  refine goes_ Try.func18 (by kernel_rfl) rfl #[.agg #[.slice A0 n0 c0, .slice A1 xs.length c1], .bool false] (by rfl) rfl rfl (by simp only [List.map_toArray, List.map_cons, List.map_nil]; rfl) ?_
  with_reducible refine (HROW.out _).mono ?_
  rintro e w4 ⟨rfl, hb⟩
  refine ⟨_, rfl, ?_⟩
  have HT4 := Lib.hid (HT3.out.step hb)
  clear hb
  refine hK.out _ _ ⟨HT4.out.n.cells.1, HT4.out.n.cells.2.1, HT4.out.icell⟩ (fun hHeld => ?_)
  clear hK K
  refine norm_ (a' := ?_) ?_ ?_
  rotate_left
  · show Act.put _ (some 20) _ = _
    simp only [Act.put, List.setIfInBounds_toArray, List.set_cons_zero, List.set_cons_succ, i64_w, i32_w]
    rfl
  refine one_ (i := 4) (N := some 22) #[true, true, true, true, true, false, false, false, false, false] rfl rfl (by kernel_rfl) (by decide) (fun K hK => ?_)
  refine goes_ Try.func17 (by kernel_rfl) rfl #[.slice A1 xs.length c1, .int .i64 (i : Int)] (by rfl) rfl rfl (by simp only [List.map_toArray, List.map_cons, List.map_nil]; rfl) ?_
  with_reducible refine ((HMEM.out _ HT4.out.below)).mono ?_
  rintro e w5 ⟨rfl, hd⟩
  refine ⟨_, rfl, ?_⟩
  have HT5 := Lib.hid (HT4.out.drawn hd)
  clear hd
  refine hK.out _ _ ⟨HT5.out.n.cells.1, HT5.out.n.cells.2.1, HT5.out.icell⟩ (fun hHeld => ?_)
  clear hK K
  refine norm_ (a' := ?_) ?_ ?_
  rotate_left
  · show Act.put _ (some 22) _ = _
    simp only [Act.put, List.setIfInBounds_toArray, List.set_cons_zero, List.set_cons_succ, i64_w, i32_w]
    rfl
  refine pure_ (i := 5) (N := some 17) (v := ?_) (a' := ?_) #[true, true, true, true, true, true, false, false, false, false] rfl rfl (by kernel_rfl) (fun _ _ _ h => h) (Or.inl ⟨by rfl, ?_⟩) ?_ ?_
  rotate_left
  · intro w'
    go_simp
    with_reducible rfl
  rotate_left
  · simp only [Act.put, List.setIfInBounds_toArray, List.set_cons_zero, List.set_cons_succ, i64_w, i32_w]
    rfl
  refine pure_ (i := 6) (N := some 23) (v := ?_) (a' := ?_) #[true, true, true, true, true, true, true, false, false, false] rfl rfl (by kernel_rfl) (fun _ _ _ h => h) (Or.inl ⟨by rfl, ?_⟩) ?_ ?_
  rotate_left
  · intro w'
    go_simp
    with_reducible rfl
  rotate_left
  · simp only [Act.put, List.setIfInBounds_toArray, List.set_cons_zero, List.set_cons_succ, i64_w, i32_w]
    rfl
  refine pure_ (i := 7) (N := some 24) (v := ?_) (a' := ?_) #[true, true, true, true, true, true, true, true, false, false] rfl rfl (by kernel_rfl) (fun _ _ _ h => h) (Or.inl ⟨by rfl, ?_⟩) ?_ ?_
  rotate_left
  · intro w'
    go_simp
    with_reducible rfl
  rotate_left
  · simp only [Act.put, List.setIfInBounds_toArray, List.set_cons_zero, List.set_cons_succ, i64_w, i32_w]
    rfl
  refine pure_ (i := 8) (N := some 12) (v := ?_) (a' := ?_) #[true, true, true, true, true, true, true, true, true, false] rfl rfl (by kernel_rfl) (fun _ _ _ h => h) (Or.inl ⟨by rfl, ?_⟩) ?_ ?_
  rotate_left
  · intro w'
    go_simp
    with_reducible rfl
  rotate_left
  · simp only [Act.put, List.setIfInBounds_toArray, List.set_cons_zero, List.set_cons_succ, i64_w, i32_w]
    rfl
  refine pure_ (i := 9) (N := some 13) (v := ?_) (a' := ?_) #[true, true, true, true, true, true, true, true, true, true] rfl rfl (by kernel_rfl) (fun _ _ _ h => h) (Or.inl ⟨by rfl, ?_⟩) ?_ ?_
  rotate_left
  · intro w'
    go_simp
    with_reducible rfl
  rotate_left
  · simp only [Act.put, List.setIfInBounds_toArray, List.set_cons_zero, List.set_cons_succ, i64_w, i32_w]
    rfl
  refine done_ (by kernel_rfl) ?_
  have kb5 := print_bytes (P := Try.prog) 9 50 5 Try.underlying9 Try.underlying50 Try.underlying5 s w5
  obtain ⟨cap, hcapd⟩ : ∃ cap, cap = grownCap w5 s.size 0 5 := ⟨_, rfl⟩
  have hge : s.size ≤ cap := by rw [hcapd]; exact grownCap_ge _ _ _ _
  rw [← hcapd] at kb5
  obtain ⟨b8, hb8e⟩ : ∃ b8, b8 = (Lib.bytesWorld w5 5 s).heap.size := ⟨_, rfl⟩
  obtain ⟨W8, hW8⟩ : ∃ W8, W8 = (Lib.bytesWorld w5 5 s).alloc (.cells #[.slice (some ⟨w5.heap.size, 0, none⟩) s.size cap] 50) := ⟨_, rfl⟩
  have hb6 := bytes_below (Below.refl w5.heap.size w5) (Nat.le_refl _) 5 s
  have z6 := Lib.bytesWorld_size w5 5 s
  have hb68 : Below (Lib.bytesWorld w5 5 s).heap.size (Lib.bytesWorld w5 5 s) W8 := by rw [hW8]; exact (Below.refl _ _).alloc (Nat.le_refl _) _
  have hb8 : Below w5.heap.size w5 W8 := hb6.trans (hb68.mono (by omega))
  have hbox8 : W8.heap[b8]? = some (.cells #[.slice (some ⟨w5.heap.size, 0, none⟩) s.size cap] 50 (0, 0)) := by rw [hW8, hb8e]; exact heap_alloc_new _ _
  have hrd8 := (bytes_reads w5 5 s hs).below hb68
  have HT8 := Lib.hid (HT5.out.step hb8)
  have HMB8 := Lib.hid (HMB.out W8 (some ⟨w5.heap.size, 0, none⟩) cap hrd8 hge)
  have hcb : W8.cell? ⟨b8, 0, none⟩ = some (.slice (some ⟨w5.heap.size, 0, none⟩) s.size cap) := by rw [blk_cell hbox8]; rfl
  rw [hb8e, hW8] at hcb
  rw [hW8] at HMB8
  have HBOX8 := Lib.hid hbox8; have HRD8 := Lib.hid hrd8; have HW8 := Lib.hid hW8; have HB8E := Lib.hid hb8e; have HZ6 := Lib.hid z6; have H5 := Lib.hid HT5.out.sz
  clear hb6 hb68 hb8 hbox8 hrd8 hW8 hge hcapd hb8e z6
  go_wp2_with fail
  refine HMB8.out.mono ?_
  rw [← HW8.out, ← HB8E.out]
  rintro e w9 ⟨rfl, hd9⟩
  have HT9 := Lib.hid (HT8.out.drawn hd9)
  obtain ⟨q9, rfl⟩ := hd9
  obtain ⟨q0, q1, _, _⟩ := HT9.out.n.cells
  obtain ⟨x0, x1, x2, x3⟩ := HT9.out.r.cells
  generalize W8.drewN q9 = w9 at *
  go_wp2_with fail
  try (go_region; all_goals try go_wp2_with fail)
  all_goals
    refine bodyPost_ret (v := .tuple #[.agg #[.slice A0 n0 c0, .slice A1 xs.length c1], .bool false]) (by simp [results, Try.results11, go_sem, x0, x1]) rfl ⟨rfl, ?_⟩
    repeat (first | exact HT9.out.below | refine below_drew ?_ | refine Below.setCell (p := ⟨w.heap.size + 1 + 1, 0, none⟩) ?_ (show w.heap.size ≤ w.heap.size + 1 + 1 by omega) _ | refine Below.setCell (p := ⟨w.heap.size + 1 + 1, 1, none⟩) ?_ (show w.heap.size ≤ w.heap.size + 1 + 1 by omega) _)
/-- What Spoil answers. -/
def spoilR (l0 l1 : List ByteArray) (up : Bool) (i a y : Int) : List ByteArray × List ByteArray × Bool :=
  if 0 ≤ i ∧ i < ((if up = true then l0 else l1).length : Int) ∧ 0 ≤ a ∧ a < ((rdOf ByteArray.empty (if up = true then l0 else l1) i).size : Int) then
    (if up = true then l0.set i.toNat (putAt (rdOf ByteArray.empty l0 i) a.toNat ((rdOf ByteArray.empty l0 i).data.toList.getD a.toNat 0 ^^^ UInt8.ofNat y.toNat)) else l0,
     if up = true then l1 else l1.set i.toNat (putAt (rdOf ByteArray.empty l1 i) a.toNat ((rdOf ByteArray.empty l1 i).data.toList.getD a.toNat 0 ^^^ UInt8.ofNat y.toNat)), true)
  else (l0, l1, false)
def net_Spoil.f (l0_0 l0_1 : List ByteArray) (a1 : Bool) (a2 a3 a4 : Int) : Option (List ByteArray × List ByteArray × Bool) :=
  if l0_0.length ≤ 8796093022208 ∧ l0_1.length ≤ 8796093022208 ∧ (∀ s ∈ l0_0, s.size ≤ 9223372036854775807) ∧ (∀ s ∈ l0_1, s.size ≤ 9223372036854775807) ∧ 0 ≤ a4 ∧ a4 < 256 then some (spoilR l0_0 l0_1 a1 a2 a3 a4) else none
theorem net_Spoil.calls (P0_0_ : Nat → Prop) (A0_0 : Option Addr) (c0_0 : Nat) (l0_0 : List ByteArray) (P0_1_ : Nat → Prop) (A0_1 : Option Addr) (c0_1 : Nat) (l0_1 : List ByteArray) (a1 : Bool) (a2 a3 a4 : Int) (r1 r2 : List ByteArray) (r3 : Bool) (w : World) (hs0_0 : Kd.V Kd.string 9 w w.heap.size (fun k_ => P0_0_ k_) (.slice A0_0 l0_0.length c0_0) l0_0) (hs0_1 : Kd.V Kd.string 9 w w.heap.size (fun k_ => P0_1_ k_) (.slice A0_1 l0_1.length c0_1) l0_1) (h : net_Spoil.f l0_0 l0_1 a1 a2 a3 a4 = some (r1, r2, r3)) :
    Calls Try.prog 11 #[.agg #[.slice A0_0 l0_0.length c0_0, .slice A0_1 l0_1.length c0_1], .bool a1, .int .i64 a2, .int .i64 a3, .int .u8 a4] w fun e w' => ∃ v0_ v1_ : Value, e = .returned (.tuple #[.agg #[v0_, v1_], .bool r3]) ∧ Kd.V Kd.string 9 w' w.heap.size (fun k_ => ((P0_0_ k_ ∨ P0_1_ k_) ∨ w.heap.size ≤ k_)) v0_ r1 ∧ Kd.V Kd.string 9 w' w.heap.size (fun k_ => ((P0_0_ k_ ∨ P0_1_ k_) ∨ w.heap.size ≤ k_)) v1_ r2 ∧ Below w.heap.size w w' := by
  have stay : ∀ e w', (e = Ending.returned (.tuple #[.agg #[.slice A0_0 l0_0.length c0_0, .slice A0_1 l0_1.length c0_1], .bool false]) ∧ Below w.heap.size w w') → ∃ v0_ v1_ : Value, e = .returned (.tuple #[.agg #[v0_, v1_], .bool false]) ∧ Kd.V Kd.string 9 w' w.heap.size (fun k_ => ((P0_0_ k_ ∨ P0_1_ k_) ∨ w.heap.size ≤ k_)) v0_ l0_0 ∧ Kd.V Kd.string 9 w' w.heap.size (fun k_ => ((P0_0_ k_ ∨ P0_1_ k_) ∨ w.heap.size ≤ k_)) v1_ l0_1 ∧ Below w.heap.size w w' := fun e w' he =>
    ⟨_, _, he.1, Kd.V_mono (Kd.V_below hs0_0 he.2) (fun _ hk => .inl (.inl hk)), Kd.V_mono (Kd.V_below hs0_1 he.2) (fun _ hk => .inl (.inr hk)), he.2⟩
  have fresh : ∀ (w' : World) (A : Option Addr) (c : Nat) (ys : List ByteArray), Kd.R Kd.string 9 w' w.heap.size (fun _ => True) (.slice A ys.length c) ys → Kd.V Kd.string 9 w' w.heap.size (fun k_ => ((P0_0_ k_ ∨ P0_1_ k_) ∨ w.heap.size ≤ k_)) (.slice A ys.length c) ys := fun w' A c ys hR =>
    Kd.V_mk (Kd.R_reads' hR).2.1 (Kd.R_F (Kd.R_mono (Kd.R_bound hR) (fun k hk => .inr hk.2.1)))
  have hr0 := Kd.V_reads' hs0_0
  have hr1 := Kd.V_reads' hs0_1
  have mem : ∀ (xs : List ByteArray) (a2 : Int), (0 ≤ a2 ∧ a2 < (xs.length : Int) → T.net_member_string.f xs a2 = some (rdOf ByteArray.empty xs a2, true)) ∧ (¬ (0 ≤ a2 ∧ a2 < (xs.length : Int)) → T.net_member_string.f xs a2 = some (⟨#[]⟩, false)) := fun xs a2 => ⟨fun hi => by
      unfold T.net_member_string.f; rw [if_neg (by omega), if_neg (by omega), if_pos hi.1, if_pos hi.2], fun hi => by
      unfold T.net_member_string.f
      by_cases a : a2 < 0
      · rw [if_pos a]
      · rw [if_neg a, if_pos (by omega)]⟩
  have memb : ∀ (xs : List Int) (a2 : Int), (0 ≤ a2 ∧ a2 < (xs.length : Int) → T.net_member_byte.f xs a2 = some (rd xs a2, true)) ∧ (¬ (0 ≤ a2 ∧ a2 < (xs.length : Int)) → T.net_member_byte.f xs a2 = some (0, false)) := fun xs a2 => ⟨fun hi => by
      unfold T.net_member_byte.f; rw [if_neg (by omega), if_neg (by omega), if_pos hi.1, if_pos hi.2], fun hi => by
      unfold T.net_member_byte.f
      by_cases a : a2 < 0
      · rw [if_pos a]
      · rw [if_neg a, if_pos (by omega)]⟩
  unfold net_Spoil.f at h
  split at h
  · rename_i hh
    have h2 := Option.some.inj h
    clear h
    obtain ⟨y, rfl⟩ : ∃ y : UInt8, a4 = (y.toNat : Int) := ⟨UInt8.ofNat a4.toNat, by have := hh.2.2.2.2; rw [UInt8.toNat_ofNat']; omega⟩
    unfold spoilR at h2
    cases a1
    · by_cases hi : 0 ≤ a2 ∧ a2 < (l0_1.length : Int)
      · obtain ⟨i, rfl⟩ := Int.eq_ofNat_of_zero_le hi.1
        have hil : i < l0_1.length := by omega
        have hrd : rdOf ByteArray.empty l0_1 (i : Int) = l0_1[i] := by unfold rdOf; rw [Int.toNat_natCast]; simp [List.getD_eq_getElem?_getD, hil]
        have hsz := hh.2.2.2.1 _ (List.getElem_mem hil)
        have hmem := (mem l0_1 (i : Int)).1 hi
        rw [hrd] at hmem
        by_cases ha : 0 ≤ a3 ∧ a3 < (l0_1[i].size : Int)
        · obtain ⟨a, rfl⟩ := Int.eq_ofNat_of_zero_le ha.1
          have hk : 0 ≤ (i : Int) ∧ (i : Int) < ((if false = true then l0_0 else l0_1).length : Int) ∧ 0 ≤ (a : Int) ∧ (a : Int) < ((rdOf ByteArray.empty (if false = true then l0_0 else l0_1) (i : Int)).size : Int) := ⟨hi.1, hi.2, ha.1, by show (a : Int) < ((rdOf ByteArray.empty l0_1 (i : Int)).size : Int); rw [hrd]; exact ha.2⟩
          rw [if_pos hk] at h2
          clear hk
          simp only [Bool.false_eq_true, if_false, if_true, Int.toNat_natCast, UInt8.ofNat_toNat, hrd, Prod.mk.injEq] at h2
          obtain ⟨rfl, rfl, rfl⟩ := h2
          have hmb : T.net_member_byte.f (bytesOf l0_1[i]) (a : Int) = some (rd (bytesOf l0_1[i]) (a : Int), true) := (memb _ _).1 ⟨ha.1, by rw [bytesOf_length]; exact ha.2⟩
          refine (spoil_in_down A0_0 _ c0_0 A0_1 c0_1 i a y _ l0_1[i] hsz l0_1 w hr1.2.2 hr1.2.1 hh.2.1 hil (by omega) _ rfl hmem hmb).mono ?_
          rintro e w' ⟨v, rfl, hR, hb⟩
          obtain ⟨A, c, rfl⟩ := Kd.R_slice hR
          exact ⟨_, _, rfl, Kd.V_mono (Kd.V_below hs0_0 hb) (fun _ hk => .inl (.inl hk)), fresh _ _ _ _ hR, hb⟩
        · have hk : ¬ (0 ≤ (i : Int) ∧ (i : Int) < ((if false = true then l0_0 else l0_1).length : Int) ∧ 0 ≤ a3 ∧ a3 < ((rdOf ByteArray.empty (if false = true then l0_0 else l0_1) (i : Int)).size : Int)) := fun hq => ha ⟨hq.2.2.1, by have := hq.2.2.2; rw [show (if false = true then l0_0 else l0_1) = l0_1 from rfl, hrd] at this; exact this⟩
          rw [if_neg hk] at h2
          simp only [Prod.mk.injEq] at h2
          obtain ⟨rfl, rfl, rfl⟩ := h2
          exact (spoil_outb_down A0_0 _ c0_0 A0_1 c0_1 (i : Int) a3 _ _ l0_1[i] hsz l0_1 w hr1.2.2 hr1.2.1 hmem ((memb _ _).2 (by rw [bytesOf_length]; exact ha))).mono stay
      · have hk : ¬ (0 ≤ a2 ∧ a2 < ((if false = true then l0_0 else l0_1).length : Int) ∧ 0 ≤ a3 ∧ a3 < ((rdOf ByteArray.empty (if false = true then l0_0 else l0_1) a2).size : Int)) := fun hq => hi ⟨hq.1, hq.2.1⟩
        rw [if_neg hk] at h2
        simp only [Prod.mk.injEq] at h2
        obtain ⟨rfl, rfl, rfl⟩ := h2
        exact (spoil_outa_down A0_0 _ c0_0 A0_1 c0_1 a2 a3 false _ _ ⟨#[]⟩ (by decide) l0_1 w hr1.2.2 hr1.2.1 ((mem l0_1 a2).2 hi) ((memb _ _).2 (by rw [bytesOf_length]; show ¬ (0 ≤ a3 ∧ a3 < (0 : Int)); omega))).mono stay
    · by_cases hi : 0 ≤ a2 ∧ a2 < (l0_0.length : Int)
      · obtain ⟨i, rfl⟩ := Int.eq_ofNat_of_zero_le hi.1
        have hil : i < l0_0.length := by omega
        have hrd : rdOf ByteArray.empty l0_0 (i : Int) = l0_0[i] := by unfold rdOf; rw [Int.toNat_natCast]; simp [List.getD_eq_getElem?_getD, hil]
        have hsz := hh.2.2.1 _ (List.getElem_mem hil)
        have hmem := (mem l0_0 (i : Int)).1 hi
        rw [hrd] at hmem
        by_cases ha : 0 ≤ a3 ∧ a3 < (l0_0[i].size : Int)
        · obtain ⟨a, rfl⟩ := Int.eq_ofNat_of_zero_le ha.1
          have hk : 0 ≤ (i : Int) ∧ (i : Int) < ((if true = true then l0_0 else l0_1).length : Int) ∧ 0 ≤ (a : Int) ∧ (a : Int) < ((rdOf ByteArray.empty (if true = true then l0_0 else l0_1) (i : Int)).size : Int) := ⟨hi.1, hi.2, ha.1, by show (a : Int) < ((rdOf ByteArray.empty l0_0 (i : Int)).size : Int); rw [hrd]; exact ha.2⟩
          rw [if_pos hk] at h2
          clear hk
          simp only [Bool.false_eq_true, if_false, if_true, Int.toNat_natCast, UInt8.ofNat_toNat, hrd, Prod.mk.injEq] at h2
          obtain ⟨rfl, rfl, rfl⟩ := h2
          have hmb : T.net_member_byte.f (bytesOf l0_0[i]) (a : Int) = some (rd (bytesOf l0_0[i]) (a : Int), true) := (memb _ _).1 ⟨ha.1, by rw [bytesOf_length]; exact ha.2⟩
          refine (spoil_in_up A0_0 c0_0 A0_1 _ c0_1 i a y _ l0_0[i] hsz l0_0 w hr0.2.2 hr0.2.1 hh.1 hil (by omega) _ rfl hmem hmb).mono ?_
          rintro e w' ⟨v, rfl, hR, hb⟩
          obtain ⟨A, c, rfl⟩ := Kd.R_slice hR
          exact ⟨_, _, rfl, fresh _ _ _ _ hR, Kd.V_mono (Kd.V_below hs0_1 hb) (fun _ hk => .inl (.inr hk)), hb⟩
        · have hk : ¬ (0 ≤ (i : Int) ∧ (i : Int) < ((if true = true then l0_0 else l0_1).length : Int) ∧ 0 ≤ a3 ∧ a3 < ((rdOf ByteArray.empty (if true = true then l0_0 else l0_1) (i : Int)).size : Int)) := fun hq => ha ⟨hq.2.2.1, by have := hq.2.2.2; rw [show (if true = true then l0_0 else l0_1) = l0_0 from rfl, hrd] at this; exact this⟩
          rw [if_neg hk] at h2
          simp only [Prod.mk.injEq] at h2
          obtain ⟨rfl, rfl, rfl⟩ := h2
          exact (spoil_outb_up A0_0 c0_0 A0_1 _ c0_1 (i : Int) a3 _ _ l0_0[i] hsz l0_0 w hr0.2.2 hr0.2.1 hmem ((memb _ _).2 (by rw [bytesOf_length]; exact ha))).mono stay
      · have hk : ¬ (0 ≤ a2 ∧ a2 < ((if true = true then l0_0 else l0_1).length : Int) ∧ 0 ≤ a3 ∧ a3 < ((rdOf ByteArray.empty (if true = true then l0_0 else l0_1) a2).size : Int)) := fun hq => hi ⟨hq.1, hq.2.1⟩
        rw [if_neg hk] at h2
        simp only [Prod.mk.injEq] at h2
        obtain ⟨rfl, rfl, rfl⟩ := h2
        exact (spoil_outa_up A0_0 c0_0 A0_1 _ c0_1 a2 a3 false _ _ ⟨#[]⟩ (by decide) l0_0 w hr0.2.2 hr0.2.1 ((mem l0_0 a2).2 hi) ((memb _ _).2 (by rw [bytesOf_length]; show ¬ (0 ≤ a3 ∧ a3 < (0 : Int)); omega))).mono stay
  · cases h
end Go.Proofs.Ytcefnaacnilojaa.Q
